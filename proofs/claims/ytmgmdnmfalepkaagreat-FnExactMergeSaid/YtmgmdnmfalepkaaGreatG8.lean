/- Parts of the proof (see the row's own text): Lbld. -/
import Derived.Test.YtmgmdnmfalepkaaGreatG00
import Derived.Test.YtmgmdnmfalepkaaGreatG4
import Derived.Test.YtmgmdnmfalepkaaGreatG6
import Derived.Test.YtmgmdnmfalepkaaGreatG7
namespace Go.Proofs.YtmgmdnmfalepkaaGreat.L
open Go.RowKit Go.Proofs.YtmgmdnmfalepkaaGreatW.PrintWords Go.Proofs.YtmgmdnmfalepkaaGreatW.PrintLast Go.Proofs.YtmgmdnmfalepkaaGreatW.PrintMore
attribute [local go_sem] max2_int min2_int max_two min_two max_three min_three max_four min_four
set_option linter.unusedVariables false
set_option linter.unusedSimpArgs false
mutual
def spec_l4union.l0 : Nat → List Int → List Int → List Int → Int → Int → Option (List Int)
 | 0, _, _, _, _, _ => none
 | k + 1, x0, x1, x5, x6, x7 => if x6 < (x0.length : Int) then (spec_l4union.j1 k x0 x1 x5 x6 x7 true) else (spec_l4union.j1 k x0 x1 x5 x6 x7 (decide (x7 < (x1.length : Int))))
def spec_l4union.j1 : Nat → List Int → List Int → List Int → Int → Int → Bool → Option (List Int)
 | 0, _, _, _, _, _, _ => none
 | k + 1, x0, x1, x5, x6, x7, x18 => if x18 = true then (if x7 ≥ (x1.length : Int) then (spec_l4union.j2 k x0 x1 x5 x6 x7 true) else (if x6 < (x0.length : Int) then (if 0 ≤ x6 then (if 0 ≤ x7 then (if x7 < (x1.length : Int) then (spec_l4union.j2 k x0 x1 x5 x6 x7 (decide ((rd x0 x6) ≤ (rd x1 x7)))) else (none)) else (none)) else (none)) else (spec_l4union.j2 k x0 x1 x5 x6 x7 false))) else (some x5)
def spec_l4union.j2 : Nat → List Int → List Int → List Int → Int → Int → Bool → Option (List Int)
 | 0, _, _, _, _, _, _ => none
 | k + 1, x0, x1, x5, x6, x7, x39 => if x39 = true then (if 0 ≤ x6 then (if x6 < (x0.length : Int) then (spec_l4union.j3 k x0 x1 x5 x6 x7 (rd x0 x6)) else (none)) else (none)) else (if 0 ≤ x7 then (if x7 < (x1.length : Int) then (spec_l4union.j3 k x0 x1 x5 x6 x7 (rd x1 x7)) else (none)) else (none))
def spec_l4union.j3 : Nat → List Int → List Int → List Int → Int → Int → Int → Option (List Int)
 | 0, _, _, _, _, _, _ => none
 | k + 1, x0, x1, x5, x6, x7, x8 => if x6 < (x0.length : Int) then (if 0 ≤ x6 then (spec_l4union.j4 k x0 x1 x5 x6 x7 x8 ((rd x0 x6) == x8)) else (none)) else (spec_l4union.j4 k x0 x1 x5 x6 x7 x8 false)
def spec_l4union.j4 : Nat → List Int → List Int → List Int → Int → Int → Int → Bool → Option (List Int)
 | 0, _, _, _, _, _, _, _ => none
 | k + 1, x0, x1, x5, x6, x7, x8, x59 => if x59 = true then (if x7 < (x1.length : Int) then (if 0 ≤ x7 then (if (rd x1 x7) = x8 then (if x5.length < 17592186044416 then (spec_l4union.l0 k x0 x1 (x5 ++ [x8]) (wrap64 (x6 + 1)) (wrap64 (x7 + 1))) else (none)) else (if x5.length < 17592186044416 then (spec_l4union.l0 k x0 x1 (x5 ++ [x8]) (wrap64 (x6 + 1)) x7) else (none))) else (none)) else (if x5.length < 17592186044416 then (spec_l4union.l0 k x0 x1 (x5 ++ [x8]) (wrap64 (x6 + 1)) x7) else (none))) else (if x7 < (x1.length : Int) then (if 0 ≤ x7 then (if (rd x1 x7) = x8 then (if x5.length < 17592186044416 then (spec_l4union.l0 k x0 x1 (x5 ++ [x8]) x6 (wrap64 (x7 + 1))) else (none)) else (if x5.length < 17592186044416 then (spec_l4union.l0 k x0 x1 (x5 ++ [x8]) x6 x7) else (none))) else (none)) else (if x5.length < 17592186044416 then (spec_l4union.l0 k x0 x1 (x5 ++ [x8]) x6 x7) else (none)))
end
def spec_l4union.f (k : Nat) (l0 : List Int) (l1 : List Int) : Option (List Int) := spec_l4union.l0 k l0 l1 ([] : List Int) 0 0
theorem spec_l4union.mono_l : ∀ k, (∀ y0 y1 y2 y3 y4, LeO (spec_l4union.l0 k y0 y1 y2 y3 y4) (spec_l4union.l0 (k + 1) y0 y1 y2 y3 y4)) ∧ (∀ y0 y1 y2 y3 y4 y5, LeO (spec_l4union.j1 k y0 y1 y2 y3 y4 y5) (spec_l4union.j1 (k + 1) y0 y1 y2 y3 y4 y5)) ∧ (∀ y0 y1 y2 y3 y4 y5, LeO (spec_l4union.j2 k y0 y1 y2 y3 y4 y5) (spec_l4union.j2 (k + 1) y0 y1 y2 y3 y4 y5)) ∧ (∀ y0 y1 y2 y3 y4 y5, LeO (spec_l4union.j3 k y0 y1 y2 y3 y4 y5) (spec_l4union.j3 (k + 1) y0 y1 y2 y3 y4 y5)) ∧ (∀ y0 y1 y2 y3 y4 y5 y6, LeO (spec_l4union.j4 k y0 y1 y2 y3 y4 y5 y6) (spec_l4union.j4 (k + 1) y0 y1 y2 y3 y4 y5 y6))
 | 0 => ⟨fun _ _ _ _ _ r h => by simp [spec_l4union.l0] at h, fun _ _ _ _ _ _ r h => by simp [spec_l4union.j1] at h, fun _ _ _ _ _ _ r h => by simp [spec_l4union.j2] at h, fun _ _ _ _ _ _ r h => by simp [spec_l4union.j3] at h, fun _ _ _ _ _ _ _ r h => by simp [spec_l4union.j4] at h⟩
 | k + 1 => by
  obtain ⟨ih0, ih1, ih2, ih3, ih4⟩ := spec_l4union.mono_l k
  refine ⟨?_, ?_, ?_, ?_, ?_⟩
  ·intro y0 y1 y2 y3 y4
   unfold spec_l4union.l0
   repeat' first
   | (with_reducible exact ih0 _ _ _ _ _)
   | (with_reducible exact ih1 _ _ _ _ _ _)
   | (with_reducible exact ih2 _ _ _ _ _ _)
   | (with_reducible exact ih3 _ _ _ _ _ _)
   | (with_reducible exact ih4 _ _ _ _ _ _ _)
   | (with_reducible exact LeO.refl _)
   | (with_reducible exact LeO.none _)
   | (with_reducible refine LeO.ite ?_ ?_)
   | (with_reducible refine LeO.bind ?_ (fun _ => ?_))
   | exact ih0 _ _ _ _ _
   | exact ih1 _ _ _ _ _ _
   | exact ih2 _ _ _ _ _ _
   | exact ih3 _ _ _ _ _ _
   | exact ih4 _ _ _ _ _ _ _
   | exact LeO.none _
   | refine LeO.ite ?_ ?_
   | refine LeO.bind ?_ (fun _ => ?_)
  ·intro y0 y1 y2 y3 y4 y5
   unfold spec_l4union.j1
   repeat' first
   | (with_reducible exact ih0 _ _ _ _ _)
   | (with_reducible exact ih1 _ _ _ _ _ _)
   | (with_reducible exact ih2 _ _ _ _ _ _)
   | (with_reducible exact ih3 _ _ _ _ _ _)
   | (with_reducible exact ih4 _ _ _ _ _ _ _)
   | (with_reducible exact LeO.refl _)
   | (with_reducible exact LeO.none _)
   | (with_reducible refine LeO.ite ?_ ?_)
   | (with_reducible refine LeO.bind ?_ (fun _ => ?_))
   | exact ih0 _ _ _ _ _
   | exact ih1 _ _ _ _ _ _
   | exact ih2 _ _ _ _ _ _
   | exact ih3 _ _ _ _ _ _
   | exact ih4 _ _ _ _ _ _ _
   | exact LeO.none _
   | refine LeO.ite ?_ ?_
   | refine LeO.bind ?_ (fun _ => ?_)
  ·intro y0 y1 y2 y3 y4 y5
   unfold spec_l4union.j2
   repeat' first
   | (with_reducible exact ih0 _ _ _ _ _)
   | (with_reducible exact ih1 _ _ _ _ _ _)
   | (with_reducible exact ih2 _ _ _ _ _ _)
   | (with_reducible exact ih3 _ _ _ _ _ _)
   | (with_reducible exact ih4 _ _ _ _ _ _ _)
   | (with_reducible exact LeO.refl _)
   | (with_reducible exact LeO.none _)
   | (with_reducible refine LeO.ite ?_ ?_)
   | (with_reducible refine LeO.bind ?_ (fun _ => ?_))
   | exact ih0 _ _ _ _ _
   | exact ih1 _ _ _ _ _ _
   | exact ih2 _ _ _ _ _ _
   | exact ih3 _ _ _ _ _ _
   | exact ih4 _ _ _ _ _ _ _
   | exact LeO.none _
   | refine LeO.ite ?_ ?_
   | refine LeO.bind ?_ (fun _ => ?_)
  ·intro y0 y1 y2 y3 y4 y5
   unfold spec_l4union.j3
   repeat' first
   | (with_reducible exact ih0 _ _ _ _ _)
   | (with_reducible exact ih1 _ _ _ _ _ _)
   | (with_reducible exact ih2 _ _ _ _ _ _)
   | (with_reducible exact ih3 _ _ _ _ _ _)
   | (with_reducible exact ih4 _ _ _ _ _ _ _)
   | (with_reducible exact LeO.refl _)
   | (with_reducible exact LeO.none _)
   | (with_reducible refine LeO.ite ?_ ?_)
   | (with_reducible refine LeO.bind ?_ (fun _ => ?_))
   | exact ih0 _ _ _ _ _
   | exact ih1 _ _ _ _ _ _
   | exact ih2 _ _ _ _ _ _
   | exact ih3 _ _ _ _ _ _
   | exact ih4 _ _ _ _ _ _ _
   | exact LeO.none _
   | refine LeO.ite ?_ ?_
   | refine LeO.bind ?_ (fun _ => ?_)
  ·intro y0 y1 y2 y3 y4 y5 y6
   unfold spec_l4union.j4
   repeat' first
   | (with_reducible exact ih0 _ _ _ _ _)
   | (with_reducible exact ih1 _ _ _ _ _ _)
   | (with_reducible exact ih2 _ _ _ _ _ _)
   | (with_reducible exact ih3 _ _ _ _ _ _)
   | (with_reducible exact ih4 _ _ _ _ _ _ _)
   | (with_reducible exact LeO.refl _)
   | (with_reducible exact LeO.none _)
   | (with_reducible refine LeO.ite ?_ ?_)
   | (with_reducible refine LeO.bind ?_ (fun _ => ?_))
   | exact ih0 _ _ _ _ _
   | exact ih1 _ _ _ _ _ _
   | exact ih2 _ _ _ _ _ _
   | exact ih3 _ _ _ _ _ _
   | exact ih4 _ _ _ _ _ _ _
   | exact LeO.none _
   | refine LeO.ite ?_ ?_
   | refine LeO.bind ?_ (fun _ => ?_)
theorem spec_l4union.mono : ∀ a0 a1 k, LeO (spec_l4union.f k a0 a1) (spec_l4union.f (k + 1) a0 a1) := by
 intro a0 a1 k
 obtain ⟨ih0, ih1, ih2, ih3, ih4⟩ := spec_l4union.mono_l k
 unfold spec_l4union.f
 repeat' first
   | (with_reducible exact ih0 _ _ _ _ _)
   | (with_reducible exact ih1 _ _ _ _ _ _)
   | (with_reducible exact ih2 _ _ _ _ _ _)
   | (with_reducible exact ih3 _ _ _ _ _ _)
   | (with_reducible exact ih4 _ _ _ _ _ _ _)
   | (with_reducible exact LeO.refl _)
   | (with_reducible exact LeO.none _)
   | (with_reducible refine LeO.ite ?_ ?_)
   | (with_reducible refine LeO.bind ?_ (fun _ => ?_))
   | exact ih0 _ _ _ _ _
   | exact ih1 _ _ _ _ _ _
   | exact ih2 _ _ _ _ _ _
   | exact ih3 _ _ _ _ _ _
   | exact ih4 _ _ _ _ _ _ _
   | exact LeO.none _
   | refine LeO.ite ?_ ?_
   | refine LeO.bind ?_ (fun _ => ?_)
set_option maxHeartbeats 8000000 in
set_option maxRecDepth 100000 in
theorem spec_l4union.calls (k : Nat) (A0 : Option Addr) (c0 : Nat) (l0 : List Int) (A1 : Option Addr) (c1 : Nat) (l1 : List Int) (r : List Int) (w : World) (hr0 : Kd.C (Kd.int .i64) w A0 l0.length l0) (hc0 : l0.length ≤ c0) (hr1 : Kd.C (Kd.int .i64) w A1 l1.length l1) (hc1 : l1.length ≤ c1) (h : spec_l4union.f k l0 l1 = some r) :
  Calls Tryz.prog 78 #[.slice A0 l0.length c0, .slice A1 l1.length c1] w fun e w' => ∃ v0_ : Value, e = .returned (v0_) ∧ Kd.R (Kd.int .i64) 3 w' w.heap.size (fun _ => True) v0_ r ∧ Below w.heap.size w w' := by
 have HR0 := zA hr0
 have HC0 := zA hc0
 clear hr0 hc0
 have HR1 := zA hr1
 have HC1 := zA hc1
 clear hr1 hc1
 have HB := zA (Below.refl w.heap.size w)
 have H : (spec_l4union.l0 k l0 l1 ([] : List Int) 0 0) = some r := h
 clear h
 have H' := zA H
 clear H
 go_enter Tryz.func78, Tryz.ntmps78
 go_wp2
 go_loopg [5, 6, 7] k (fun kq v5 v6 v7 w' => ∃ (x5_1 : List Int) (x6_1 : Int) (x7_1 : Int), v6 = .int .i64 x6_1 ∧ v7 = .int .i64 x7_1 ∧ Aside0 (spec_l4union.l0 kq l0 l1 x5_1 x6_1 x7_1 = some r) ∧ Aside0 (kq ≤ k) ∧ Aside0 (Kd.R (Kd.int .i64) 3 w' w.heap.size (fun _ => True) v5 x5_1) ∧ Aside0 (Below w.heap.size w w'))
 case atStart => exact ⟨(([] : List Int)), (0), (0), zq4, zq4, H', ⟨Nat.le_refl _⟩, ⟨zq20⟩, ⟨zq0⟩⟩
 case round =>
  clear H'
  try clear c1
  try clear p2
  obtain ⟨x5_1, x6_1, x7_1, rfl, rfl, HA, HK1, HO_5, HB⟩ := hrel
  cases gk with
  | zero => exact absurd HA.out (by simp [spec_l4union.l0])
  | succ k1 =>
   have H := HA.out
   clear HA
   simp only [spec_l4union.l0] at H
   have HC3 := zA H
   clear H
   go_upto_region 4 with (fail)
   go_cut [18] (fun v18 wc => ∃ (kq : Nat) (x18_2 : Bool), v18 = .bool x18_2 ∧ Aside0 (spec_l4union.j1 kq l0 l1 x5_1 x6_1 x7_1 x18_2 = some r) ∧ Aside0 (kq ≤ k1) ∧ Aside0 (Kd.R (Kd.int .i64) 3 wc w.heap.size (fun _ => True) u5 x5_1) ∧ Aside0 (Below w.heap.size w wc))
   case first =>
    have H := HC3.out
    clear HC3
    by_cases c4 : x6_1 < (l0.length : Int)
    ·rw [if_pos c4] at H
     have c4b0 : decide (x6_1 < (l0.length : Int)) = true := decide_eq_true c4
     clear c4
     (first | rw [c4b0] | (simp only [i64_w, i32_w]; rw [c4b0]) | skip)
     have H' := zA H
     clear H
     go_wp2
     go_meet
     case rel => exact ⟨_, (true), zq4, H', ⟨by have := HK1.out; first | omega | exact Nat.le_refl _⟩, ⟨zq7⟩, ⟨zq0⟩⟩
    ·rw [if_neg c4] at H
     have c4b0 : decide (x6_1 < (l0.length : Int)) = false := decide_eq_false c4
     clear c4
     (first | rw [c4b0] | (simp only [i64_w, i32_w]; rw [c4b0]) | skip)
     have H' := zA H
     clear H
     go_wp2
     go_meet
     case rel => exact ⟨_, (decide (x7_1 < (l1.length : Int))), zq4, H', ⟨by have := HK1.out; first | omega | exact Nat.le_refl _⟩, ⟨zq7⟩, ⟨zq0⟩⟩
   case rest =>
    clear HC3
    try clear c1
    try clear p2
    try clear c4
    try clear c4b0
    try clear p2
    obtain ⟨kq, x18_2, rfl, HA, HJ2, HO_5, HB⟩ := hcut
    cases kq with
    | zero => exact absurd HA.out (by simp [spec_l4union.j1])
    | succ kj2 =>
     have H := HA.out
     clear HA
     simp only [spec_l4union.j1] at H
     by_cases c5 : x18_2 = true
     ·subst c5
      have H1 : (if x7_1 ≥ (l1.length : Int) then (spec_l4union.j2 kj2 l0 l1 x5_1 x6_1 x7_1 true) else (if x6_1 < (l0.length : Int) then (if 0 ≤ x6_1 then (if 0 ≤ x7_1 then (if x7_1 < (l1.length : Int) then (spec_l4union.j2 kj2 l0 l1 x5_1 x6_1 x7_1 (decide ((rd l0 x6_1) ≤ (rd l1 x7_1)))) else (none)) else (none)) else (none)) else (spec_l4union.j2 kj2 l0 l1 x5_1 x6_1 x7_1 false))) = some r := by rw [if_pos rfl] at H; exact H
      clear H
      have H := H1
      clear H1
      have HC6 := zA H
      clear H
      go_upto_region 6 with (fail)
      go_cut [39] (fun v39 wc => ∃ (kq : Nat) (x39_5 : Bool), v39 = .bool x39_5 ∧ Aside0 (spec_l4union.j2 kq l0 l1 x5_1 x6_1 x7_1 x39_5 = some r) ∧ Aside0 (kq ≤ kj2) ∧ Aside0 (Kd.R (Kd.int .i64) 3 wc w.heap.size (fun _ => True) u5 x5_1) ∧ Aside0 (Below w.heap.size w wc))
      case first =>
       have H := HC6.out
       clear HC6
       by_cases c7 : x7_1 ≥ (l1.length : Int)
       ·rw [if_pos c7] at H
        have c7b0 : decide ((l1.length : Int) ≤ x7_1) = true := decide_eq_true c7
        clear c7
        (first | rw [c7b0] | (simp only [i64_w, i32_w]; rw [c7b0]) | skip)
        have H' := zA H
        clear H
        go_wp2
        repeat (go_quiet (fail); try go_wp2)
        go_meet
        case rel => exact ⟨_, (true), zq4, H', ⟨by have := HK1.out; have := HJ2.out; first | omega | exact Nat.le_refl _⟩, ⟨zq7⟩, ⟨zq0⟩⟩
       ·rw [if_neg c7] at H
        have c7b0 : decide ((l1.length : Int) ≤ x7_1) = false := decide_eq_false c7
        clear c7
        (first | rw [c7b0] | (simp only [i64_w, i32_w]; rw [c7b0]) | skip)
        by_cases c8 : x6_1 < (l0.length : Int)
        ·rw [if_pos c8] at H
         have c8b0 : decide (x6_1 < (l0.length : Int)) = true := decide_eq_true c8
         clear c8
         by_cases c9 : 0 ≤ x6_1
         ·rw [if_pos c9] at H
          have c9b0 : decide (0 ≤ x6_1) = true := decide_eq_true c9
          clear c9
          by_cases c10 : 0 ≤ x7_1
          ·rw [if_pos c10] at H
           have c10b0 : decide (0 ≤ x7_1) = true := decide_eq_true c10
           clear c10
           by_cases c11 : x7_1 < (l1.length : Int)
           ·rw [if_pos c11] at H
            have c11b0 : decide (x7_1 < (l1.length : Int)) = true := decide_eq_true c11
            clear c11
            have H' := zA H
            clear H
            have p179 : 0 ≤ (x6_1 : Int) := of_decide_eq_true zq2
            have q179 : x6_1 < (l0.length : Int) := of_decide_eq_true zq2
            obtain ⟨ad179, e179, hx179_0⟩ := Kd.at_int HR0.out x6_1 p179 q179
            cases e179
            replace hx179_0 := (HB.out.cell (World.block_lt_of_cell? w _ hx179_0)).trans hx179_0
            replace p179 := eq_true p179
            replace q179 := eq_true q179
            have p180 : 0 ≤ (x7_1 : Int) := of_decide_eq_true zq2
            have q180 : x7_1 < (l1.length : Int) := of_decide_eq_true zq2
            obtain ⟨ad180, e180, hx180_0⟩ := Kd.at_int HR1.out x7_1 p180 q180
            cases e180
            replace hx180_0 := (HB.out.cell (World.block_lt_of_cell? w _ hx180_0)).trans hx180_0
            replace p180 := eq_true p180
            replace q180 := eq_true q180
            go_wp2
            repeat (go_quiet (fail); try go_wp2)
            go_meet
            case rel => exact ⟨_, (decide ((rd l0 x6_1) ≤ (rd l1 x7_1))), zq4, H', ⟨by have := HK1.out; have := HJ2.out; first | omega | exact Nat.le_refl _⟩, ⟨zq7⟩, ⟨zq0⟩⟩
           ·rw [if_neg c11] at H
            exact absurd H zq12
          ·rw [if_neg c10] at H
           exact absurd H zq12
         ·rw [if_neg c9] at H
          exact absurd H zq12
        ·rw [if_neg c8] at H
         have c8b0 : decide (x6_1 < (l0.length : Int)) = false := decide_eq_false c8
         clear c8
         have H' := zA H
         clear H
         go_wp2
         repeat (go_quiet (fail); try go_wp2)
         go_meet
         case rel => exact ⟨_, (false), zq4, H', ⟨by have := HK1.out; have := HJ2.out; first | omega | exact Nat.le_refl _⟩, ⟨zq7⟩, ⟨zq0⟩⟩
      case rest =>
       clear HC6
       try clear c1
       try clear p1
       try clear q1
       try clear hx1
       try clear p2
       try clear c4
       try clear c4b0
       try clear c5
       try clear c7
       try clear c7b0
       try clear c8
       try clear c8b0
       try clear c9
       try clear c9b0
       try clear c10
       try clear c10b0
       try clear c11
       try clear c11b0
       try clear hx179_0
       try clear hx180_0
       try clear p179
       try clear p180
       try clear p2
       try clear q179
       try clear q180
       obtain ⟨kq, x39_5, rfl, HA, HJ5, HO_5, HB⟩ := hcut
       cases kq with
       | zero => exact absurd HA.out (by simp [spec_l4union.j2])
       | succ kj5 =>
        have H := HA.out
        clear HA
        simp only [spec_l4union.j2] at H
        have HC12 := zA H
        clear H
        go_upto_if 39 with (fail)
        go_cut [8] (fun v8 wc => ∃ (kq : Nat) (x8_11 : Int), v8 = .int .i64 x8_11 ∧ Aside0 (spec_l4union.j3 kq l0 l1 x5_1 x6_1 x7_1 x8_11 = some r) ∧ Aside0 (kq ≤ kj5) ∧ Aside0 (Kd.R (Kd.int .i64) 3 wc w.heap.size (fun _ => True) u5 x5_1) ∧ Aside0 (Below w.heap.size w wc))
        case first =>
         have H := HC12.out
         clear HC12
         by_cases c13 : x39_5 = true
         ·subst c13
          have H1 : (if 0 ≤ x6_1 then (if x6_1 < (l0.length : Int) then (spec_l4union.j3 kj5 l0 l1 x5_1 x6_1 x7_1 (rd l0 x6_1)) else (none)) else (none)) = some r := by rw [if_pos rfl] at H; exact H
          clear H
          have H := H1
          clear H1
          by_cases c14 : 0 ≤ x6_1
          ·rw [if_pos c14] at H
           have c14b0 : decide (0 ≤ x6_1) = true := decide_eq_true c14
           clear c14
           (first | rw [c14b0] | (simp only [i64_w, i32_w]; rw [c14b0]) | skip)
           by_cases c15 : x6_1 < (l0.length : Int)
           ·rw [if_pos c15] at H
            have c15b0 : decide (x6_1 < (l0.length : Int)) = true := decide_eq_true c15
            clear c15
            have H' := zA H
            clear H
            have p181 : 0 ≤ (x6_1 : Int) := of_decide_eq_true zq2
            have q181 : x6_1 < (l0.length : Int) := of_decide_eq_true zq2
            obtain ⟨ad181, e181, hx181_0⟩ := Kd.at_int HR0.out x6_1 p181 q181
            cases e181
            replace hx181_0 := (HB.out.cell (World.block_lt_of_cell? w _ hx181_0)).trans hx181_0
            replace p181 := eq_true p181
            replace q181 := eq_true q181
            go_wp2
            go_meet
            case rel => exact ⟨_, (rd l0 x6_1), zq4, H', ⟨by have := HK1.out; have := HJ2.out; have := HJ5.out; first | omega | exact Nat.le_refl _⟩, ⟨zq7⟩, ⟨zq0⟩⟩
           ·rw [if_neg c15] at H
            exact absurd H zq12
          ·rw [if_neg c14] at H
           exact absurd H zq12
         ·replace c13 := Bool.eq_false_iff.mpr c13
          subst c13
          have H1 : (if 0 ≤ x7_1 then (if x7_1 < (l1.length : Int) then (spec_l4union.j3 kj5 l0 l1 x5_1 x6_1 x7_1 (rd l1 x7_1)) else (none)) else (none)) = some r := by rw [if_neg (show ¬ (false = true) by decide)] at H; exact H
          clear H
          have H := H1
          clear H1
          by_cases c16 : 0 ≤ x7_1
          ·rw [if_pos c16] at H
           have c16b0 : decide (0 ≤ x7_1) = true := decide_eq_true c16
           clear c16
           by_cases c17 : x7_1 < (l1.length : Int)
           ·rw [if_pos c17] at H
            have c17b0 : decide (x7_1 < (l1.length : Int)) = true := decide_eq_true c17
            clear c17
            have H' := zA H
            clear H
            have p182 : 0 ≤ (x7_1 : Int) := of_decide_eq_true zq2
            have q182 : x7_1 < (l1.length : Int) := of_decide_eq_true zq2
            obtain ⟨ad182, e182, hx182_0⟩ := Kd.at_int HR1.out x7_1 p182 q182
            cases e182
            replace hx182_0 := (HB.out.cell (World.block_lt_of_cell? w _ hx182_0)).trans hx182_0
            replace p182 := eq_true p182
            replace q182 := eq_true q182
            go_wp2
            go_meet
            case rel => exact ⟨_, (rd l1 x7_1), zq4, H', ⟨by have := HK1.out; have := HJ2.out; have := HJ5.out; first | omega | exact Nat.le_refl _⟩, ⟨zq7⟩, ⟨zq0⟩⟩
           ·rw [if_neg c17] at H
            exact absurd H zq12
          ·rw [if_neg c16] at H
           exact absurd H zq12
        case rest =>
         clear HC12
         try clear c1
         try clear p1
         try clear q1
         try clear hx1
         try clear p2
         try clear c4
         try clear c4b0
         try clear c5
         try clear c7
         try clear c7b0
         try clear c8
         try clear c8b0
         try clear c9
         try clear c9b0
         try clear c10
         try clear c10b0
         try clear c11
         try clear c11b0
         try clear c13
         try clear c14
         try clear c14b0
         try clear c15
         try clear c15b0
         try clear c16
         try clear c16b0
         try clear c17
         try clear c17b0
         try clear p17
         try clear q17
         try clear hx17
         try clear hx179_0
         try clear hx180_0
         try clear hx181_0
         try clear hx182_0
         try clear p1
         try clear p179
         try clear p180
         try clear p181
         try clear p182
         try clear p2
         try clear q1
         try clear q179
         try clear q180
         try clear q181
         try clear q182
         obtain ⟨kq, x8_11, rfl, HA, HJ11, HO_5, HB⟩ := hcut
         cases kq with
         | zero => exact absurd HA.out (by simp [spec_l4union.j3])
         | succ kj11 =>
          have H := HA.out
          clear HA
          simp only [spec_l4union.j3] at H
          have HC18 := zA H
          clear H
          go_upto_region 9 with (fail)
          go_cut [59] (fun v59 wc => ∃ (kq : Nat) (x59_17 : Bool), v59 = .bool x59_17 ∧ Aside0 (spec_l4union.j4 kq l0 l1 x5_1 x6_1 x7_1 x8_11 x59_17 = some r) ∧ Aside0 (kq ≤ kj11) ∧ Aside0 (Kd.R (Kd.int .i64) 3 wc w.heap.size (fun _ => True) u5 x5_1) ∧ Aside0 (Below w.heap.size w wc))
          case first =>
           have H := HC18.out
           clear HC18
           by_cases c19 : x6_1 < (l0.length : Int)
           ·rw [if_pos c19] at H
            have c19b0 : decide (x6_1 < (l0.length : Int)) = true := decide_eq_true c19
            clear c19
            (first | rw [c19b0] | (simp only [i64_w, i32_w]; rw [c19b0]) | skip)
            by_cases c20 : 0 ≤ x6_1
            ·rw [if_pos c20] at H
             have c20b0 : decide (0 ≤ x6_1) = true := decide_eq_true c20
             clear c20
             have H' := zA H
             clear H
             have p183 : 0 ≤ (x6_1 : Int) := of_decide_eq_true zq2
             have q183 : x6_1 < (l0.length : Int) := of_decide_eq_true zq2
             obtain ⟨ad183, e183, hx183_0⟩ := Kd.at_int HR0.out x6_1 p183 q183
             cases e183
             replace hx183_0 := (HB.out.cell (World.block_lt_of_cell? w _ hx183_0)).trans hx183_0
             replace p183 := eq_true p183
             replace q183 := eq_true q183
             go_wp2
             go_meet
             case rel => exact ⟨_, (((rd l0 x6_1) == x8_11)), zq4, H', ⟨by have := HK1.out; have := HJ2.out; have := HJ5.out; have := HJ11.out; first | omega | exact Nat.le_refl _⟩, ⟨zq7⟩, ⟨zq0⟩⟩
            ·rw [if_neg c20] at H
             exact absurd H zq12
           ·rw [if_neg c19] at H
            have c19b0 : decide (x6_1 < (l0.length : Int)) = false := decide_eq_false c19
            clear c19
            (first | rw [c19b0] | (simp only [i64_w, i32_w]; rw [c19b0]) | skip)
            have H' := zA H
            clear H
            go_wp2
            go_meet
            case rel => exact ⟨_, (false), zq4, H', ⟨by have := HK1.out; have := HJ2.out; have := HJ5.out; have := HJ11.out; first | omega | exact Nat.le_refl _⟩, ⟨zq7⟩, ⟨zq0⟩⟩
          case rest =>
           clear HC18
           try clear c1
           try clear p1
           try clear q1
           try clear hx1
           try clear c2
           try clear p2
           try clear c4
           try clear c4b0
           try clear c5
           try clear c7
           try clear c7b0
           try clear c8
           try clear c8b0
           try clear c9
           try clear c9b0
           try clear c10
           try clear c10b0
           try clear c11
           try clear c11b0
           try clear c13
           try clear c14
           try clear c14b0
           try clear c15
           try clear c15b0
           try clear c16
           try clear c16b0
           try clear c17
           try clear c17b0
           try clear p17
           try clear q17
           try clear hx17
           try clear p18
           try clear q18
           try clear hx18
           try clear c19
           try clear c19b0
           try clear c20
           try clear c20b0
           try clear hx179_0
           try clear hx180_0
           try clear hx181_0
           try clear hx182_0
           try clear hx183_0
           try clear p1
           try clear p17
           try clear p179
           try clear p180
           try clear p181
           try clear p182
           try clear p183
           try clear p2
           try clear q1
           try clear q17
           try clear q179
           try clear q180
           try clear q181
           try clear q182
           try clear q183
           obtain ⟨kq, x59_17, rfl, HA, HJ17, HO_5, HB⟩ := hcut
           cases kq with
           | zero => exact absurd HA.out (by simp [spec_l4union.j4])
           | succ kj17 =>
            have H := HA.out
            clear HA
            simp only [spec_l4union.j4] at H
            by_cases c21 : x59_17 = true
            ·subst c21
             have H1 : (if x7_1 < (l1.length : Int) then (if 0 ≤ x7_1 then (if (rd l1 x7_1) = x8_11 then (if x5_1.length < 17592186044416 then (spec_l4union.l0 kj17 l0 l1 (x5_1 ++ [x8_11]) (wrap64 (x6_1 + 1)) (wrap64 (x7_1 + 1))) else (none)) else (if x5_1.length < 17592186044416 then (spec_l4union.l0 kj17 l0 l1 (x5_1 ++ [x8_11]) (wrap64 (x6_1 + 1)) x7_1) else (none))) else (none)) else (if x5_1.length < 17592186044416 then (spec_l4union.l0 kj17 l0 l1 (x5_1 ++ [x8_11]) (wrap64 (x6_1 + 1)) x7_1) else (none))) = some r := by rw [if_pos rfl] at H; exact H
             clear H
             have H := H1
             clear H1
             by_cases c22 : x7_1 < (l1.length : Int)
             ·rw [if_pos c22] at H
              have c22b0 : decide (x7_1 < (l1.length : Int)) = true := decide_eq_true c22
              clear c22
              by_cases c23 : 0 ≤ x7_1
              ·rw [if_pos c23] at H
               have c23b0 : decide (0 ≤ x7_1) = true := decide_eq_true c23
               clear c23
               by_cases c24 : (rd l1 x7_1) = x8_11
               ·rw [if_pos c24] at H
                have c24b0 : ((rd l1 x7_1) == x8_11) = true := beq_iff_eq.mpr c24
                have c24b1 : ((rd l1 x7_1) != x8_11) = false := bne_eq_false_iff_eq.mpr c24
                clear c24
                by_cases c25 : x5_1.length < 17592186044416
                ·rw [if_pos c25] at H
                 have LMc25 := zA c25
                 clear c25
                 obtain ⟨y185, hy185⟩ : ∃ y_ : List Int, y_ = (x5_1 ++ [x8_11]) := ⟨_, rfl⟩
                 replace H : (spec_l4union.l0 kj17 l0 l1 y185 (wrap64 (x6_1 + 1)) (wrap64 (x7_1 + 1))) = some r := by first | (rw [hy185]; with_reducible exact H) | (have H2_ := (Option.bind_some _ _).symm.trans H; rw [hy185]; with_reducible exact H2_) | (have H2_ := (Option.bind_some _ _).symm.trans H; with_reducible exact H2_) | with_reducible exact H | (rw [hy185]; exact H) | exact H
                 have Ny185 := zA hy185
                 clear hy185
                 have H' := zA H
                 clear H
                 have p184 : 0 ≤ (x7_1 : Int) := of_decide_eq_true zq2
                 have q184 : x7_1 < (l1.length : Int) := of_decide_eq_true zq2
                 obtain ⟨ad184, e184, hx184_0⟩ := Kd.at_int HR1.out x7_1 p184 q184
                 cases e184
                 replace hx184_0 := (HB.out.cell (World.block_lt_of_cell? w _ hx184_0)).trans hx184_0
                 replace p184 := eq_true p184
                 replace q184 := eq_true q184
                 go_wp2_with (first | ((with_reducible refine gate_builtin (b := .append) (xs := #[.tmp 76, .tmp 78]) rfl ?_); (try (refine gate_guard zq16 ?_; dsimp only)); at_builtin; refine Kd.R_append (Kd.int .i64) (w0 := w) w.heap.size rfl (.tmp 76) (.tmp 78) 56 3 (.int .i64 0) 8 rfl Tryz.underlying56 info3 rfl zq15 zq1 u5 x5_1 x8_11 [.int .i64 x8_11] (fun _ => True) (fun _ => False) rfl rfl ?aP (fun _ hk => hk.elim) ?aF ?aO ?aB ?aS ?aL ?_; (case aP => exact rfl); (case aB => exact zq0); (case aF => exact (fun _ _ => trivial)); (case aO => exact zq7); (case aS => exact (below_size zq0)); (case aL => have := LMc25.out; omega); intro v186 w26 ho hb hg hat; rw [← Ny185.out] at ho; have n0_ := zA (hb); have n1_ := zA (ho); clear HB; clear HO_5; have HB := n0_; have HO187 := n1_; clear n0_ n1_; clear ho hb hg hat))
                 go_roundg kj17
                 case measure => have := HK1.out; have := HJ2.out; have := HJ5.out; have := HJ11.out; have := HJ17.out; omega
                 case rel => exact ⟨(y185), (wrap64 (x6_1 + 1)), (wrap64 (x7_1 + 1)), zq4, zq4, H', ⟨zq21⟩, ⟨by (with_reducible repeat (first | apply Kd.R_alloc | apply Kd.R_drewN | apply Kd.R_drew)); exact HO187.out⟩, ⟨zq0⟩⟩
                ·rw [if_neg c25] at H
                 exact absurd H zq12
               ·rw [if_neg c24] at H
                have c24b0 : ((rd l1 x7_1) == x8_11) = false := beq_eq_false_iff_ne.mpr c24
                have c24b1 : ((rd l1 x7_1) != x8_11) = true := bne_iff_ne.mpr c24
                by_cases c27 : x5_1.length < 17592186044416
                ·rw [if_pos c27] at H
                 have LMc27 := zA c27
                 clear c27
                 obtain ⟨y188, hy188⟩ : ∃ y_ : List Int, y_ = (x5_1 ++ [x8_11]) := ⟨_, rfl⟩
                 replace H : (spec_l4union.l0 kj17 l0 l1 y188 (wrap64 (x6_1 + 1)) x7_1) = some r := by first | (rw [hy188]; with_reducible exact H) | (have H2_ := (Option.bind_some _ _).symm.trans H; rw [hy188]; with_reducible exact H2_) | (have H2_ := (Option.bind_some _ _).symm.trans H; with_reducible exact H2_) | with_reducible exact H | (rw [hy188]; exact H) | exact H
                 have Ny188 := zA hy188
                 clear hy188
                 have H' := zA H
                 clear H
                 have p184 : 0 ≤ (x7_1 : Int) := of_decide_eq_true zq2
                 have q184 : x7_1 < (l1.length : Int) := of_decide_eq_true zq2
                 obtain ⟨ad184, e184, hx184_0⟩ := Kd.at_int HR1.out x7_1 p184 q184
                 cases e184
                 replace hx184_0 := (HB.out.cell (World.block_lt_of_cell? w _ hx184_0)).trans hx184_0
                 replace p184 := eq_true p184
                 replace q184 := eq_true q184
                 go_wp2_with (first | ((with_reducible refine gate_builtin (b := .append) (xs := #[.tmp 76, .tmp 78]) rfl ?_); (try (refine gate_guard zq16 ?_; dsimp only)); at_builtin; refine Kd.R_append (Kd.int .i64) (w0 := w) w.heap.size rfl (.tmp 76) (.tmp 78) 56 3 (.int .i64 0) 8 rfl Tryz.underlying56 info3 rfl zq15 zq1 u5 x5_1 x8_11 [.int .i64 x8_11] (fun _ => True) (fun _ => False) rfl rfl ?aP (fun _ hk => hk.elim) ?aF ?aO ?aB ?aS ?aL ?_; (case aP => exact rfl); (case aB => exact zq0); (case aF => exact (fun _ _ => trivial)); (case aO => exact zq7); (case aS => exact (below_size zq0)); (case aL => have := LMc27.out; omega); intro v189 w28 ho hb hg hat; rw [← Ny188.out] at ho; have n0_ := zA (hb); have n1_ := zA (ho); clear HB; clear HO_5; have HB := n0_; have HO190 := n1_; clear n0_ n1_; clear ho hb hg hat))
                 go_roundg kj17
                 case measure => have := HK1.out; have := HJ2.out; have := HJ5.out; have := HJ11.out; have := HJ17.out; omega
                 case rel => exact ⟨(y188), (wrap64 (x6_1 + 1)), (x7_1), zq4, zq4, H', ⟨zq21⟩, ⟨by (with_reducible repeat (first | apply Kd.R_alloc | apply Kd.R_drewN | apply Kd.R_drew)); exact HO190.out⟩, ⟨zq0⟩⟩
                ·rw [if_neg c27] at H
                 exact absurd H zq12
              ·rw [if_neg c23] at H
               exact absurd H zq12
             ·rw [if_neg c22] at H
              have c22b0 : decide (x7_1 < (l1.length : Int)) = false := decide_eq_false c22
              clear c22
              by_cases c29 : x5_1.length < 17592186044416
              ·rw [if_pos c29] at H
               have LMc29 := zA c29
               clear c29
               obtain ⟨y191, hy191⟩ : ∃ y_ : List Int, y_ = (x5_1 ++ [x8_11]) := ⟨_, rfl⟩
               replace H : (spec_l4union.l0 kj17 l0 l1 y191 (wrap64 (x6_1 + 1)) x7_1) = some r := by first | (rw [hy191]; with_reducible exact H) | (have H2_ := (Option.bind_some _ _).symm.trans H; rw [hy191]; with_reducible exact H2_) | (have H2_ := (Option.bind_some _ _).symm.trans H; with_reducible exact H2_) | with_reducible exact H | (rw [hy191]; exact H) | exact H
               have Ny191 := zA hy191
               clear hy191
               have H' := zA H
               clear H
               go_wp2_with (first | ((with_reducible refine gate_builtin (b := .append) (xs := #[.tmp 76, .tmp 78]) rfl ?_); (try (refine gate_guard zq16 ?_; dsimp only)); at_builtin; refine Kd.R_append (Kd.int .i64) (w0 := w) w.heap.size rfl (.tmp 76) (.tmp 78) 56 3 (.int .i64 0) 8 rfl Tryz.underlying56 info3 rfl zq15 zq1 u5 x5_1 x8_11 [.int .i64 x8_11] (fun _ => True) (fun _ => False) rfl rfl ?aP (fun _ hk => hk.elim) ?aF ?aO ?aB ?aS ?aL ?_; (case aP => exact rfl); (case aB => exact zq0); (case aF => exact (fun _ _ => trivial)); (case aO => exact zq7); (case aS => exact (below_size zq0)); (case aL => have := LMc29.out; omega); intro v192 w30 ho hb hg hat; rw [← Ny191.out] at ho; have n0_ := zA (hb); have n1_ := zA (ho); clear HB; clear HO_5; have HB := n0_; have HO193 := n1_; clear n0_ n1_; clear ho hb hg hat))
               go_roundg kj17
               case measure => have := HK1.out; have := HJ2.out; have := HJ5.out; have := HJ11.out; have := HJ17.out; omega
               case rel => exact ⟨(y191), (wrap64 (x6_1 + 1)), (x7_1), zq4, zq4, H', ⟨zq21⟩, ⟨by (with_reducible repeat (first | apply Kd.R_alloc | apply Kd.R_drewN | apply Kd.R_drew)); exact HO193.out⟩, ⟨zq0⟩⟩
              ·rw [if_neg c29] at H
               exact absurd H zq12
            ·replace c21 := Bool.eq_false_iff.mpr c21
             subst c21
             have H1 : (if x7_1 < (l1.length : Int) then (if 0 ≤ x7_1 then (if (rd l1 x7_1) = x8_11 then (if x5_1.length < 17592186044416 then (spec_l4union.l0 kj17 l0 l1 (x5_1 ++ [x8_11]) x6_1 (wrap64 (x7_1 + 1))) else (none)) else (if x5_1.length < 17592186044416 then (spec_l4union.l0 kj17 l0 l1 (x5_1 ++ [x8_11]) x6_1 x7_1) else (none))) else (none)) else (if x5_1.length < 17592186044416 then (spec_l4union.l0 kj17 l0 l1 (x5_1 ++ [x8_11]) x6_1 x7_1) else (none))) = some r := by rw [if_neg (show ¬ (false = true) by decide)] at H; exact H
             clear H
             have H := H1
             clear H1
             by_cases c31 : x7_1 < (l1.length : Int)
             ·rw [if_pos c31] at H
              have c31b0 : decide (x7_1 < (l1.length : Int)) = true := decide_eq_true c31
              clear c31
              by_cases c32 : 0 ≤ x7_1
              ·rw [if_pos c32] at H
               have c32b0 : decide (0 ≤ x7_1) = true := decide_eq_true c32
               clear c32
               by_cases c33 : (rd l1 x7_1) = x8_11
               ·rw [if_pos c33] at H
                have c33b0 : ((rd l1 x7_1) == x8_11) = true := beq_iff_eq.mpr c33
                have c33b1 : ((rd l1 x7_1) != x8_11) = false := bne_eq_false_iff_eq.mpr c33
                clear c33
                by_cases c34 : x5_1.length < 17592186044416
                ·rw [if_pos c34] at H
                 have LMc34 := zA c34
                 clear c34
                 obtain ⟨y195, hy195⟩ : ∃ y_ : List Int, y_ = (x5_1 ++ [x8_11]) := ⟨_, rfl⟩
                 replace H : (spec_l4union.l0 kj17 l0 l1 y195 x6_1 (wrap64 (x7_1 + 1))) = some r := by first | (rw [hy195]; with_reducible exact H) | (have H2_ := (Option.bind_some _ _).symm.trans H; rw [hy195]; with_reducible exact H2_) | (have H2_ := (Option.bind_some _ _).symm.trans H; with_reducible exact H2_) | with_reducible exact H | (rw [hy195]; exact H) | exact H
                 have Ny195 := zA hy195
                 clear hy195
                 have H' := zA H
                 clear H
                 have p194 : 0 ≤ (x7_1 : Int) := of_decide_eq_true zq2
                 have q194 : x7_1 < (l1.length : Int) := of_decide_eq_true zq2
                 obtain ⟨ad194, e194, hx194_0⟩ := Kd.at_int HR1.out x7_1 p194 q194
                 cases e194
                 replace hx194_0 := (HB.out.cell (World.block_lt_of_cell? w _ hx194_0)).trans hx194_0
                 replace p194 := eq_true p194
                 replace q194 := eq_true q194
                 go_wp2_with (first | ((with_reducible refine gate_builtin (b := .append) (xs := #[.tmp 76, .tmp 78]) rfl ?_); (try (refine gate_guard zq16 ?_; dsimp only)); at_builtin; refine Kd.R_append (Kd.int .i64) (w0 := w) w.heap.size rfl (.tmp 76) (.tmp 78) 56 3 (.int .i64 0) 8 rfl Tryz.underlying56 info3 rfl zq15 zq1 u5 x5_1 x8_11 [.int .i64 x8_11] (fun _ => True) (fun _ => False) rfl rfl ?aP (fun _ hk => hk.elim) ?aF ?aO ?aB ?aS ?aL ?_; (case aP => exact rfl); (case aB => exact zq0); (case aF => exact (fun _ _ => trivial)); (case aO => exact zq7); (case aS => exact (below_size zq0)); (case aL => have := LMc34.out; omega); intro v196 w35 ho hb hg hat; rw [← Ny195.out] at ho; have n0_ := zA (hb); have n1_ := zA (ho); clear HB; clear HO_5; have HB := n0_; have HO197 := n1_; clear n0_ n1_; clear ho hb hg hat))
                 go_roundg kj17
                 case measure => have := HK1.out; have := HJ2.out; have := HJ5.out; have := HJ11.out; have := HJ17.out; omega
                 case rel => exact ⟨(y195), (x6_1), (wrap64 (x7_1 + 1)), zq4, zq4, H', ⟨zq21⟩, ⟨by (with_reducible repeat (first | apply Kd.R_alloc | apply Kd.R_drewN | apply Kd.R_drew)); exact HO197.out⟩, ⟨zq0⟩⟩
                ·rw [if_neg c34] at H
                 exact absurd H zq12
               ·rw [if_neg c33] at H
                have c33b0 : ((rd l1 x7_1) == x8_11) = false := beq_eq_false_iff_ne.mpr c33
                have c33b1 : ((rd l1 x7_1) != x8_11) = true := bne_iff_ne.mpr c33
                by_cases c36 : x5_1.length < 17592186044416
                ·rw [if_pos c36] at H
                 have LMc36 := zA c36
                 clear c36
                 obtain ⟨y198, hy198⟩ : ∃ y_ : List Int, y_ = (x5_1 ++ [x8_11]) := ⟨_, rfl⟩
                 replace H : (spec_l4union.l0 kj17 l0 l1 y198 x6_1 x7_1) = some r := by first | (rw [hy198]; with_reducible exact H) | (have H2_ := (Option.bind_some _ _).symm.trans H; rw [hy198]; with_reducible exact H2_) | (have H2_ := (Option.bind_some _ _).symm.trans H; with_reducible exact H2_) | with_reducible exact H | (rw [hy198]; exact H) | exact H
                 have Ny198 := zA hy198
                 clear hy198
                 have H' := zA H
                 clear H
                 have p194 : 0 ≤ (x7_1 : Int) := of_decide_eq_true zq2
                 have q194 : x7_1 < (l1.length : Int) := of_decide_eq_true zq2
                 obtain ⟨ad194, e194, hx194_0⟩ := Kd.at_int HR1.out x7_1 p194 q194
                 cases e194
                 replace hx194_0 := (HB.out.cell (World.block_lt_of_cell? w _ hx194_0)).trans hx194_0
                 replace p194 := eq_true p194
                 replace q194 := eq_true q194
                 go_wp2_with (first | ((with_reducible refine gate_builtin (b := .append) (xs := #[.tmp 76, .tmp 78]) rfl ?_); (try (refine gate_guard zq16 ?_; dsimp only)); at_builtin; refine Kd.R_append (Kd.int .i64) (w0 := w) w.heap.size rfl (.tmp 76) (.tmp 78) 56 3 (.int .i64 0) 8 rfl Tryz.underlying56 info3 rfl zq15 zq1 u5 x5_1 x8_11 [.int .i64 x8_11] (fun _ => True) (fun _ => False) rfl rfl ?aP (fun _ hk => hk.elim) ?aF ?aO ?aB ?aS ?aL ?_; (case aP => exact rfl); (case aB => exact zq0); (case aF => exact (fun _ _ => trivial)); (case aO => exact zq7); (case aS => exact (below_size zq0)); (case aL => have := LMc36.out; omega); intro v199 w37 ho hb hg hat; rw [← Ny198.out] at ho; have n0_ := zA (hb); have n1_ := zA (ho); clear HB; clear HO_5; have HB := n0_; have HO200 := n1_; clear n0_ n1_; clear ho hb hg hat))
                 go_roundg kj17
                 case measure => have := HK1.out; have := HJ2.out; have := HJ5.out; have := HJ11.out; have := HJ17.out; omega
                 case rel => exact ⟨(y198), (x6_1), (x7_1), zq4, zq4, H', ⟨zq21⟩, ⟨by (with_reducible repeat (first | apply Kd.R_alloc | apply Kd.R_drewN | apply Kd.R_drew)); exact HO200.out⟩, ⟨zq0⟩⟩
                ·rw [if_neg c36] at H
                 exact absurd H zq12
              ·rw [if_neg c32] at H
               exact absurd H zq12
             ·rw [if_neg c31] at H
              have c31b0 : decide (x7_1 < (l1.length : Int)) = false := decide_eq_false c31
              clear c31
              by_cases c38 : x5_1.length < 17592186044416
              ·rw [if_pos c38] at H
               have LMc38 := zA c38
               clear c38
               obtain ⟨y201, hy201⟩ : ∃ y_ : List Int, y_ = (x5_1 ++ [x8_11]) := ⟨_, rfl⟩
               replace H : (spec_l4union.l0 kj17 l0 l1 y201 x6_1 x7_1) = some r := by first | (rw [hy201]; with_reducible exact H) | (have H2_ := (Option.bind_some _ _).symm.trans H; rw [hy201]; with_reducible exact H2_) | (have H2_ := (Option.bind_some _ _).symm.trans H; with_reducible exact H2_) | with_reducible exact H | (rw [hy201]; exact H) | exact H
               have Ny201 := zA hy201
               clear hy201
               have H' := zA H
               clear H
               go_wp2_with (first | ((with_reducible refine gate_builtin (b := .append) (xs := #[.tmp 76, .tmp 78]) rfl ?_); (try (refine gate_guard zq16 ?_; dsimp only)); at_builtin; refine Kd.R_append (Kd.int .i64) (w0 := w) w.heap.size rfl (.tmp 76) (.tmp 78) 56 3 (.int .i64 0) 8 rfl Tryz.underlying56 info3 rfl zq15 zq1 u5 x5_1 x8_11 [.int .i64 x8_11] (fun _ => True) (fun _ => False) rfl rfl ?aP (fun _ hk => hk.elim) ?aF ?aO ?aB ?aS ?aL ?_; (case aP => exact rfl); (case aB => exact zq0); (case aF => exact (fun _ _ => trivial)); (case aO => exact zq7); (case aS => exact (below_size zq0)); (case aL => have := LMc38.out; omega); intro v202 w39 ho hb hg hat; rw [← Ny201.out] at ho; have n0_ := zA (hb); have n1_ := zA (ho); clear HB; clear HO_5; have HB := n0_; have HO203 := n1_; clear n0_ n1_; clear ho hb hg hat))
               go_roundg kj17
               case measure => have := HK1.out; have := HJ2.out; have := HJ5.out; have := HJ11.out; have := HJ17.out; omega
               case rel => exact ⟨(y201), (x6_1), (x7_1), zq4, zq4, H', ⟨zq21⟩, ⟨by (with_reducible repeat (first | apply Kd.R_alloc | apply Kd.R_drewN | apply Kd.R_drew)); exact HO203.out⟩, ⟨zq0⟩⟩
              ·rw [if_neg c38] at H
               exact absurd H zq12
     ·replace c5 := Bool.eq_false_iff.mpr c5
      subst c5
      have H1 : (some x5_1) = some r := by rw [if_neg (show ¬ (false = true) by decide)] at H; exact H
      clear H
      have H := H1
      clear H1
      obtain rfl := Option.some.inj H
      go_wp2
      go_ret
      exact ⟨_, zq9, zq7, zq0⟩
def spec_l4keys.f : Nat → List (List Int) → Option (List Int)
 | 0, _ => none
 | k + 1, l0 => if (l0.length : Int) = 0 then (some ([] : List Int)) else (if (l0.length : Int) = 1 then (if 0 < (l0.length : Int) then ((spec_Trigrams.f k (rd_L1 l0 0)).bind fun t205 => (some t205)) else (none)) else (if 0 ≤ (wrap64 ((l0.length : Int) / 2)) then (if (wrap64 ((l0.length : Int) / 2)) ≤ (l0.length : Int) then ((spec_l4keys.f k (l0.take ((wrap64 ((l0.length : Int) / 2)) : Int).toNat)).bind fun t212 => ((spec_l4keys.f k (l0.drop ((wrap64 ((l0.length : Int) / 2)) : Int).toNat)).bind fun t219 => ((spec_l4union.f k t212 t219).bind fun t222 => (some t222)))) else (none)) else (none)))
theorem spec_l4keys.mono_l : ∀ k, (∀ y0, LeO (spec_l4keys.f k y0) (spec_l4keys.f (k + 1) y0))
 | 0 => fun _ r h => by simp [spec_l4keys.f] at h
 | k + 1 => by
  have ih0 := spec_l4keys.mono_l k
  ·intro y0
   unfold spec_l4keys.f
   repeat' first
   | (with_reducible exact ih0 _)
   | (with_reducible exact spec_Trigrams.mono _ _)
   | (with_reducible exact spec_l4union.mono _ _ _)
   | (with_reducible exact LeO.refl _)
   | (with_reducible exact LeO.none _)
   | (with_reducible refine LeO.ite ?_ ?_)
   | (with_reducible refine LeO.bind ?_ (fun _ => ?_))
   | exact ih0 _
   | exact spec_Trigrams.mono _ _
   | exact spec_l4union.mono _ _ _
   | exact LeO.none _
   | refine LeO.ite ?_ ?_
   | refine LeO.bind ?_ (fun _ => ?_)
theorem spec_l4keys.mono : ∀ a0 k, LeO (spec_l4keys.f k a0) (spec_l4keys.f (k + 1) a0) := by
 intro a0 k
 have ih0 := spec_l4keys.mono_l k
 exact ih0 a0
set_option maxHeartbeats 8000000 in
set_option maxRecDepth 100000 in
theorem spec_l4keys.calls (k : Nat) : ∀ (A0 : Option Addr) (c0 : Nat) (l0 : List (List Int)) (r : List Int) (w : World) (hr0 : Kd.C (Kd.slice 5 (Kd.int .u8)) w A0 l0.length l0) (hc0 : l0.length ≤ c0) (h : spec_l4keys.f k l0 = some r),
  Calls Tryz.prog 56 #[.slice A0 l0.length c0] w fun e w' => ∃ v0_ : Value, e = .returned (v0_) ∧ Kd.R (Kd.int .i64) 3 w' w.heap.size (fun _ => True) v0_ r ∧ Below w.heap.size w w' := by
 induction k using Nat.strongRecOn with
 | _ k ih =>
 intro A0 c0 l0 r w hr0 hc0 h
 cases k with
 | zero => exact absurd h (by simp [spec_l4keys.f])
 | succ k =>
 simp only [spec_l4keys.f] at h
 have HR0 := zA hr0
 have HC0 := zA hc0
 clear hr0 hc0
 have HB := zA (Below.refl w.heap.size w)
 have H : (if (l0.length : Int) = 0 then (some ([] : List Int)) else (if (l0.length : Int) = 1 then (if 0 < (l0.length : Int) then ((spec_Trigrams.f k (rd_L1 l0 0)).bind fun t205 => (some t205)) else (none)) else (if 0 ≤ (wrap64 ((l0.length : Int) / 2)) then (if (wrap64 ((l0.length : Int) / 2)) ≤ (l0.length : Int) then ((spec_l4keys.f k (l0.take ((wrap64 ((l0.length : Int) / 2)) : Int).toNat)).bind fun t212 => ((spec_l4keys.f k (l0.drop ((wrap64 ((l0.length : Int) / 2)) : Int).toNat)).bind fun t219 => ((spec_l4union.f k t212 t219).bind fun t222 => (some t222)))) else (none)) else (none)))) = some r := h
 clear h
 by_cases c2 : (l0.length : Int) = 0
 ·rw [if_pos c2] at H
  have c2b0 : ((l0.length : Int) == 0) = true := beq_iff_eq.mpr c2
  have c2b1 : ((l0.length : Int) != 0) = false := bne_eq_false_iff_eq.mpr c2
  clear c2
  obtain rfl := Option.some.inj H
  go_enter Tryz.func56, Tryz.ntmps56
  go_wp2
  go_ret
  exact ⟨_, zq9, zq20, zq0⟩
 ·rw [if_neg c2] at H
  have c2b0 : ((l0.length : Int) == 0) = false := beq_eq_false_iff_ne.mpr c2
  have c2b1 : ((l0.length : Int) != 0) = true := bne_iff_ne.mpr c2
  have c2b2 : ¬ (l0 = []) := fun h_ => c2 (by rw [h_]; rfl)
  by_cases c3 : (l0.length : Int) = 1
  ·rw [if_pos c3] at H
   have c3b0 : ((l0.length : Int) == 1) = true := beq_iff_eq.mpr c3
   have c3b1 : ((l0.length : Int) != 1) = false := bne_eq_false_iff_eq.mpr c3
   clear c3
   by_cases c4 : 0 < (l0.length : Int)
   ·rw [if_pos c4] at H
    have c4b0 : decide (0 < (l0.length : Int)) = true := decide_eq_true c4
    have c4b1 : decide (0 < l0.length) = true := decide_eq_true zq1
    clear c4
    replace H := Option.bind_eq_some_iff.mp H
    obtain ⟨t205, A50, H⟩ := H
    replace H : (some t205) = some r := H
    have A5 := zA A50
    clear A50
    obtain rfl := Option.some.inj H
    have p204 : 0 ≤ (0 : Int) := zq1
    have q204 : 0 < (l0.length : Int) := of_decide_eq_true zq2
    obtain ⟨ad204, A204_0, c204_0, e204, hx204_0, hl204_0, hi204_0⟩ := at_L1 HR0.out 0 p204 q204
    cases e204
    have qi204 : (0 < l0.length) = True := eq_true zq1
    (try rw [show ((0 : Int)).toNat = 0 from rfl] at hx204_0)
    (try rw [Addr.add_zero'] at hx204_0)
    have HR204_0 := zA hi204_0
    have HC204_0 := zA hl204_0
    clear hi204_0 hl204_0
    replace p204 := eq_true p204
    replace q204 := eq_true q204
    go_enter Tryz.func56, Tryz.ntmps56
    go_wp2_with (first | ((with_reducible refine gate_callee (f := 57) rfl ?_); refine goesL_ (some 15) rfl rfl Tryz.func57 zq5 rfl #[.slice A204_0 (rd_L1 l0 0).length c204_0] rfl zq6 ?_; (with_reducible refine (spec_Trigrams.calls k _ _ (rd_L1 l0 0) t205 _ ?side1 ?side2 A5.out).mono ?_); (case side1 => repeat (first | exact HR204_0.out | (with_reducible refine Kd.C_alloc ?_ _) | (with_reducible refine Kd.C_drewN ?_ _) | (with_reducible refine Kd.C_drew ?_))); (case side2 => exact HC204_0.out); rintro e w6 ⟨v206, rfl, ho0, hb⟩; refine ⟨_, rfl, ?_⟩; have n0_ := zA (Kd.R_lower ho0 (below_size zq0)); have n1_ := zA (below_step zq0 hb); clear HB; have HO207 := n0_; have HB := n1_; clear n0_ n1_; (try clear hb); (try clear hb2); (try clear hk); (try clear hi); (try clear ho0)))
    go_ret
    exact ⟨_, zq9, by (with_reducible repeat (first | apply Kd.R_alloc | apply Kd.R_drewN | apply Kd.R_drew)); exact HO207.out, zq0⟩
   ·rw [if_neg c4] at H
    exact absurd H zq12
  ·rw [if_neg c3] at H
   have c3b0 : ((l0.length : Int) == 1) = false := beq_eq_false_iff_ne.mpr c3
   have c3b1 : ((l0.length : Int) != 1) = true := bne_iff_ne.mpr c3
   obtain ⟨ji7, hji7⟩ : ∃ j_ : Int, (wrap64 ((l0.length : Int) / 2)) = j_ := ⟨_, rfl⟩
   replace H : (if 0 ≤ (ji7) then (if (ji7) ≤ (l0.length : Int) then ((spec_l4keys.f k (l0.take ((ji7) : Int).toNat)).bind fun t212 => ((spec_l4keys.f k (l0.drop ((ji7) : Int).toNat)).bind fun t219 => ((spec_l4union.f k t212 t219).bind fun t222 => (some t222)))) else (none)) else (none)) = some r := by first | (rw [hji7] at H; exact H) | (simp only [hji7] at H ⊢; exact H)
   have hji7w : (IntKind.i64.wrap ((l0.length : Int) / 2)) = ji7 := (i64_w _).trans hji7
   by_cases c8 : 0 ≤ (ji7)
   ·rw [if_pos c8] at H
    have c8b0 := eq_true c8
    have c8b1 : decide (0 ≤ (ji7)) = true := decide_eq_true c8
    clear c8
    by_cases c9 : (ji7) ≤ (l0.length : Int)
    ·rw [if_pos c9] at H
     have c9b0 := eq_true c9
     have c9b1 : decide ((ji7) ≤ (l0.length : Int)) = true := decide_eq_true c9
     clear c9
     obtain ⟨y208, hy208⟩ : ∃ y_ : List (List Int), y_ = (l0.take ((ji7) : Int).toNat) := ⟨_, rfl⟩
     replace H : ((spec_l4keys.f k y208).bind fun t212 => ((spec_l4keys.f k (l0.drop ((ji7) : Int).toNat)).bind fun t219 => ((spec_l4union.f k t212 t219).bind fun t222 => (some t222)))) = some r := by first | (rw [hy208]; with_reducible exact H) | (have H2_ := (Option.bind_some _ _).symm.trans H; rw [hy208]; with_reducible exact H2_) | (have H2_ := (Option.bind_some _ _).symm.trans H; with_reducible exact H2_) | with_reducible exact H | (rw [hy208]; exact H) | exact H
     have Ny208 := zA hy208
     clear hy208
     replace H := Option.bind_eq_some_iff.mp H
     obtain ⟨t212, A100, H⟩ := H
     replace H : ((spec_l4keys.f k (l0.drop ((ji7) : Int).toNat)).bind fun t219 => ((spec_l4union.f k t212 t219).bind fun t222 => (some t222))) = some r := H
     have A10 := zA A100
     clear A100
     have c11b0 := eq_true (of_decide_eq_true zq2 : 0 ≤ (ji7))
     have c12b0 := eq_true (of_decide_eq_true zq2 : (ji7) ≤ (l0.length : Int))
     obtain ⟨y215, hy215⟩ : ∃ y_ : List (List Int), y_ = (l0.drop ((ji7) : Int).toNat) := ⟨_, rfl⟩
     replace H : ((spec_l4keys.f k y215).bind fun t219 => ((spec_l4union.f k t212 t219).bind fun t222 => (some t222))) = some r := by first | (rw [hy215]; with_reducible exact H) | (have H2_ := (Option.bind_some _ _).symm.trans H; rw [hy215]; with_reducible exact H2_) | (have H2_ := (Option.bind_some _ _).symm.trans H; with_reducible exact H2_) | with_reducible exact H | (rw [hy215]; exact H) | exact H
     have Ny215 := zA hy215
     clear hy215
     replace H := Option.bind_eq_some_iff.mp H
     obtain ⟨t219, A130, H⟩ := H
     replace H : ((spec_l4union.f k t212 t219).bind fun t222 => (some t222)) = some r := H
     have A13 := zA A130
     clear A130
     replace H := Option.bind_eq_some_iff.mp H
     obtain ⟨t222, A140, H⟩ := H
     replace H : (some t222) = some r := H
     have A14 := zA A140
     clear A140
     obtain rfl := Option.some.inj H
     have q15 : ((ji7) : Int) ≤ ((l0.length : Int) : Int) := of_decide_eq_true zq2
     obtain ⟨i015, hi015, _, hsz15, _⟩ := info_parts info25
     have hroom15 : l0.length ≤ c0 := HC0.out
     have hC15 : Kd.C (Kd.slice 5 (Kd.int .u8)) _ A0 l0.length l0 := HR0.out
     have hcut15 := cut_to (P := Tryz.prog) 22 25 .i64 Tryz.underlying22 hi015 A0 l0.length c0 (ji7) (of_decide_eq_true zq2) q15 hroom15
     have hr15 := Kd.C_take (m := ((ji7) : Int).toNat) hC15 zq1
     have hy15 : y208.length = ((ji7) : Int).toNat := (by rw [Ny208.out, List.length_take]; omega)
     rw [← Ny208.out] at hr15
     rw [← hy15] at hcut15
     have HR211 := zA hr15
     have HC211 := zA (show y208.length ≤ c0 from by omega)
     clear hr15 hC15 hroom15 hi015 hsz15
     have KY15 := zA hy15
     clear hy15
     replace q15 := eq_true q15
     go_enter Tryz.func56, Tryz.ntmps56
     go_wp2_with (first | ((with_reducible refine gate_callee (f := 56) rfl ?_); refine goesL_ (some 22) rfl rfl Tryz.func56 zq5 rfl #[.slice A0 y208.length c0] rfl zq6 ?_; (with_reducible refine (ih k zq1 _ _ y208 t212 _ ?side1 ?side2 A10.out).mono ?_); (case side1 => repeat (first | exact HR211.out | (with_reducible refine Kd.C_alloc ?_ _) | (with_reducible refine Kd.C_drewN ?_ _) | (with_reducible refine Kd.C_drew ?_))); (case side2 => exact HC211.out); rintro e w16 ⟨v213, rfl, ho0, hb⟩; refine ⟨_, rfl, ?_⟩; have n0_ := zA (Kd.R_lower ho0 (below_size zq0)); have n1_ := zA (below_step zq0 hb); clear HB; have HO214 := n0_; have HB := n1_; clear n0_ n1_; (try clear hb); (try clear hb2); (try clear hk); (try clear hi); (try clear ho0); have q17 : ((ji7) : Int) ≤ ((l0.length : Int) : Int) := of_decide_eq_true zq2; obtain ⟨i017, hi017, _, hsz17, _⟩ := info_parts info25; have hroom17 : l0.length ≤ c0 := HC0.out; have hC17 : Kd.C (Kd.slice 5 (Kd.int .u8)) _ A0 l0.length l0 := HR0.out; have q017 : (0 : Int) ≤ ((ji7) : Int) := of_decide_eq_true zq2; have hcut17 := cut_from (P := Tryz.prog) 22 25 .i64 Tryz.underlying22 hi017 1 hsz17 A0 l0.length c0 (ji7) q017 q17; have hr17 := Kd.C_drop (m := ((ji7) : Int).toNat) (c := c0) hC17 zq1 hroom17; obtain ⟨A17, hA17⟩ : ∃ A1, A1 = (if c0 = ((ji7) : Int).toNat then A0 else (A0 : Option Addr).map (·.add (((ji7) : Int).toNat * 1))) := ⟨_, rfl⟩; obtain ⟨c17, hc17⟩ : ∃ c1, c1 = c0 - ((ji7) : Int).toNat := ⟨_, rfl⟩; have hy17 : y215.length = l0.length - ((ji7) : Int).toNat := (by rw [Ny215.out, List.length_drop] <;> omega); rw [show (l0).drop ((ji7) : Int).toNat = y215 from Ny215.out.symm] at hr17; replace hr17 : Kd.C (Kd.slice 5 (Kd.int .u8)) _ A17 y215.length y215 := (by rw [hA17]; exact hr17); rw [← hy17, ← hA17, ← hc17] at hcut17; have HR218 := zA hr17; have HC218 := zA (show y215.length ≤ c17 from by rw [hy17, hc17]; exact Nat.sub_le_sub_right hroom17 _); clear hr17 hC17 hroom17 hi017 hsz17 hc17; have KY17 := zA hy17; have KA17 := zA hA17; clear hy17 hA17; replace q17 := eq_true q17) | ((with_reducible refine gate_callee (f := 56) rfl ?_); refine goesL_ (some 26) rfl rfl Tryz.func56 zq5 rfl #[.slice A17 y215.length c17] rfl zq6 ?_; (with_reducible refine (ih k zq1 _ _ y215 t219 _ ?side1 ?side2 A13.out).mono ?_); (case side1 => repeat (first | exact (Kd.C_below HR218.out HB.out) | (with_reducible refine Kd.C_alloc ?_ _) | (with_reducible refine Kd.C_drewN ?_ _) | (with_reducible refine Kd.C_drew ?_))); (case side2 => exact HC218.out); rintro e w18 ⟨v220, rfl, ho0, hb⟩; refine ⟨_, rfl, ?_⟩; have n0_ := zA (Kd.R_elder' zq30 (Kd.R_base ho0) hb); have n1_ := zA (Kd.R_lower (Kd.R_new' ho0 (Kd.R_lt zq30)) (below_size zq0)); have n2_ := zA (below_step zq0 hb); clear HO214; clear HB; have HO214 := n0_; have HO221 := n1_; have HB := n2_; clear n0_ n1_ n2_; (try clear hb); (try clear hb2); (try clear hk); (try clear hi); (try clear ho0); obtain ⟨Ao19, co19, eo19⟩ := Kd.R_slice HO214.out; subst eo19; obtain ⟨Ao20, co20, eo20⟩ := Kd.R_slice HO221.out; subst eo20) | ((with_reducible refine gate_callee (f := 78) rfl ?_); refine goesL_ (some 29) rfl rfl Tryz.func78 zq5 rfl #[.slice Ao19 t212.length co19, .slice Ao20 t219.length co20] rfl zq6 ?_; (with_reducible refine (spec_l4union.calls k _ _ t212 _ _ t219 t222 _ ?side1 ?side2 ?side3 ?side4 A14.out).mono ?_); (case side1 => repeat (first | exact (Kd.R_reads' HO214.out).2.2 | (with_reducible refine Kd.C_alloc ?_ _) | (with_reducible refine Kd.C_drewN ?_ _) | (with_reducible refine Kd.C_drew ?_))); (case side2 => exact (Kd.R_reads' HO214.out).2.1); (case side3 => repeat (first | exact (Kd.R_reads' HO221.out).2.2 | (with_reducible refine Kd.C_alloc ?_ _) | (with_reducible refine Kd.C_drewN ?_ _) | (with_reducible refine Kd.C_drew ?_))); (case side4 => exact (Kd.R_reads' HO221.out).2.1); rintro e w21 ⟨v223, rfl, ho0, hb⟩; refine ⟨_, rfl, ?_⟩; have n0_ := zA (Kd.R_elder' zq30 (Kd.R_base ho0) hb); have n1_ := zA (Kd.R_elder' (by (with_reducible repeat (first | apply Kd.R_alloc | apply Kd.R_drewN | apply Kd.R_drew)); exact HO221.out) (Kd.R_base ho0) hb); have n2_ := zA (Kd.R_lower (Kd.R_new' (Kd.R_new' ho0 (Kd.R_lt zq30)) (Kd.R_lt (by (with_reducible repeat (first | apply Kd.R_alloc | apply Kd.R_drewN | apply Kd.R_drew)); exact HO221.out))) (below_size zq0)); have n3_ := zA (below_step zq0 hb); clear HO214; clear HO221; clear HB; have HO214 := n0_; have HO221 := n1_; have HO224 := n2_; have HB := n3_; clear n0_ n1_ n2_ n3_; (try clear hb); (try clear hb2); (try clear hk); (try clear hi); (try clear ho0)))
     go_ret
     exact ⟨_, by first | rfl | (simp [errW_none, errW_some] <;> rfl) | (simp only [← hji7]; first | rfl | (simp [errW_none, errW_some] <;> rfl)) | (simp [*, errW_none, errW_some] <;> rfl), by (with_reducible repeat (first | apply Kd.R_alloc | apply Kd.R_drewN | apply Kd.R_drew)); exact Kd.R_mono HO224.out (fun _ hk => trivial), zq0⟩
    ·rw [if_neg c9] at H
     exact absurd H zq12
   ·rw [if_neg c8] at H
    exact absurd H zq12
def spec_l2inList.l0 : Nat → List Int → Int → Int → Option (Bool)
 | 0, _, _, _ => none
 | k + 1, x0, x1, x5 => if x5 < (x0.length : Int) then (if 0 ≤ x5 then (if (rd x0 x5) = x1 then (some true) else (spec_l2inList.l0 k x0 x1 (wrap64 (x5 + 1)))) else (none)) else (some false)
def spec_l2inList.f (k : Nat) (l0 : List Int) (a1 : Int) : Option (Bool) := spec_l2inList.l0 k l0 a1 0
theorem spec_l2inList.mono_l : ∀ k, (∀ y0 y1 y2, LeO (spec_l2inList.l0 k y0 y1 y2) (spec_l2inList.l0 (k + 1) y0 y1 y2))
 | 0 => fun _ _ _ r h => by simp [spec_l2inList.l0] at h
 | k + 1 => by
  have ih0 := spec_l2inList.mono_l k
  ·intro y0 y1 y2
   unfold spec_l2inList.l0
   repeat' first
   | (with_reducible exact ih0 _ _ _)
   | (with_reducible exact LeO.refl _)
   | (with_reducible exact LeO.none _)
   | (with_reducible refine LeO.ite ?_ ?_)
   | (with_reducible refine LeO.bind ?_ (fun _ => ?_))
   | exact ih0 _ _ _
   | exact LeO.none _
   | refine LeO.ite ?_ ?_
   | refine LeO.bind ?_ (fun _ => ?_)
theorem spec_l2inList.mono : ∀ a0 a1 k, LeO (spec_l2inList.f k a0 a1) (spec_l2inList.f (k + 1) a0 a1) := by
 intro a0 a1 k
 have ih0 := spec_l2inList.mono_l k
 unfold spec_l2inList.f
 repeat' first
   | (with_reducible exact ih0 _ _ _)
   | (with_reducible exact LeO.refl _)
   | (with_reducible exact LeO.none _)
   | (with_reducible refine LeO.ite ?_ ?_)
   | (with_reducible refine LeO.bind ?_ (fun _ => ?_))
   | exact ih0 _ _ _
   | exact LeO.none _
   | refine LeO.ite ?_ ?_
   | refine LeO.bind ?_ (fun _ => ?_)
set_option maxHeartbeats 8000000 in
set_option maxRecDepth 100000 in
theorem spec_l2inList.calls (k : Nat) (A0 : Option Addr) (c0 : Nat) (l0 : List Int) (a1 : Int) (r : Bool) (w : World) (hr0 : Kd.C (Kd.int .i64) w A0 l0.length l0) (hc0 : l0.length ≤ c0) (h : spec_l2inList.f k l0 a1 = some r) :
  Calls Tryz.prog 58 #[.slice A0 l0.length c0, .int .i64 a1] w fun e w' => e = .returned (.bool r) ∧ Drawn0 w w' := by
 have HR0 := zA hr0
 have HC0 := zA hc0
 clear hr0 hc0
 have H : (spec_l2inList.l0 k l0 a1 0) = some r := h
 clear h
 have H' := zA H
 clear H
 go_enter Tryz.func58, Tryz.ntmps58
 go_wp2
 go_loopg [5] k (fun kq v5 w' => ∃ (x5_1 : Int), v5 = .int .i64 x5_1 ∧ Aside0 (spec_l2inList.l0 kq l0 a1 x5_1 = some r) ∧ Aside0 (kq ≤ k) ∧ Drawn0 w w')
 case atStart => exact ⟨(0), zq4, H', ⟨Nat.le_refl _⟩, zq8⟩
 case round =>
  clear H'
  try clear p2
  obtain ⟨x5_1, rfl, HA, HK1, ⟨m1, rfl⟩⟩ := hrel
  cases gk with
  | zero => exact absurd HA.out (by simp [spec_l2inList.l0])
  | succ k1 =>
   have H := HA.out
   clear HA
   simp only [spec_l2inList.l0] at H
   by_cases c3 : x5_1 < (l0.length : Int)
   ·rw [if_pos c3] at H
    have c3b0 : decide (x5_1 < (l0.length : Int)) = true := decide_eq_true c3
    clear c3
    by_cases c4 : 0 ≤ x5_1
    ·rw [if_pos c4] at H
     have c4b0 : decide (0 ≤ x5_1) = true := decide_eq_true c4
     clear c4
     by_cases c5 : (rd l0 x5_1) = a1
     ·rw [if_pos c5] at H
      have c5b0 : ((rd l0 x5_1) == a1) = true := beq_iff_eq.mpr c5
      have c5b1 : ((rd l0 x5_1) != a1) = false := bne_eq_false_iff_eq.mpr c5
      clear c5
      obtain rfl := Option.some.inj H
      have p225 : 0 ≤ (x5_1 : Int) := of_decide_eq_true zq2
      have q225 : x5_1 < (l0.length : Int) := of_decide_eq_true zq2
      obtain ⟨ad225, e225, hx225_0⟩ := Kd.at_int HR0.out x5_1 p225 q225
      cases e225
      replace p225 := eq_true p225
      replace q225 := eq_true q225
      go_wp2
      go_ret
      exact ⟨zq4, zq8⟩
     ·rw [if_neg c5] at H
      have c5b0 : ((rd l0 x5_1) == a1) = false := beq_eq_false_iff_ne.mpr c5
      have c5b1 : ((rd l0 x5_1) != a1) = true := bne_iff_ne.mpr c5
      have H' := zA H
      clear H
      have p225 : 0 ≤ (x5_1 : Int) := of_decide_eq_true zq2
      have q225 : x5_1 < (l0.length : Int) := of_decide_eq_true zq2
      obtain ⟨ad225, e225, hx225_0⟩ := Kd.at_int HR0.out x5_1 p225 q225
      cases e225
      replace p225 := eq_true p225
      replace q225 := eq_true q225
      go_wp2
      go_roundg k1
      case measure => have := HK1.out; omega
      case rel => exact ⟨(wrap64 (x5_1 + 1)), zq4, H', ⟨zq33⟩, zq8⟩
    ·rw [if_neg c4] at H
     exact absurd H zq12
   ·rw [if_neg c3] at H
    have c3b0 : decide (x5_1 < (l0.length : Int)) = false := decide_eq_false c3
    clear c3
    obtain rfl := Option.some.inj H
    go_wp2
    go_ret
    exact ⟨zq4, zq8⟩
mutual
def spec_l4build.l0 : Nat → Int → List (List Int) → List (List Int) → Int → Int → List (List Int) → List Int → Option (Int × (List (List Int)) × List Int × (List (List Int)))
 | 0, _, _, _, _, _, _, _ => none
 | k + 1, x0, x1, x6, x7, x231000, x231001, x231002 => if x7 < (x1.length : Int) then (if 0 ≤ x7 then ((spec_Trigrams.f k (rd_L1 x1 x7)).bind fun t235 => (if x6.length < 5864062014805 then (spec_l4build.l0 k x0 x1 (x6 ++ [t235]) (wrap64 (x7 + 1)) x231000 x231001 x231002) else (none))) else (none)) else (spec_l4build.l1 k x0 x1 x6 0 x231000 x231001 x231002 ([] : List (List Int)))
def spec_l4build.l1 : Nat → Int → List (List Int) → List (List Int) → Int → Int → List (List Int) → List Int → List (List Int) → Option (Int × (List (List Int)) × List Int × (List (List Int)))
 | 0, _, _, _, _, _, _, _, _ => none
 | k + 1, x0, x1, x6, x8, x231000, x231001, x231002, x231003 => if x8 < (x231002.length : Int) then (spec_l4build.l2 k x0 x1 x6 x8 ([] : List Int) 0 x231000 x231001 x231002 x231003) else (some (x231000, x231001, x231002, x231003))
def spec_l4build.l2 : Nat → Int → List (List Int) → List (List Int) → Int → List Int → Int → Int → List (List Int) → List Int → List (List Int) → Option (Int × (List (List Int)) × List Int × (List (List Int)))
 | 0, _, _, _, _, _, _, _, _, _, _ => none
 | k + 1, x0, x1, x6, x8, x9, x10, x231000, x231001, x231002, x231003 => if x10 < (x1.length : Int) then (if 0 ≤ x10 then (if x10 < (x6.length : Int) then (if 0 ≤ x8 then (if x8 < (x231002.length : Int) then ((spec_l2inList.f k (rd_L3 x6 x10) (rd x231002 x8)).bind fun t243 => (if t243 = true then (if x9.length < 17592186044416 then (spec_l4build.l2 k x0 x1 x6 x8 (x9 ++ [wrap64 (x0 + x10)]) (wrap64 (x10 + 1)) x231000 x231001 x231002 x231003) else (none)) else (spec_l4build.l2 k x0 x1 x6 x8 x9 (wrap64 (x10 + 1)) x231000 x231001 x231002 x231003))) else (none)) else (none)) else (none)) else (none)) else (if x231003.length < 5864062014805 then (spec_l4build.l1 k x0 x1 x6 (wrap64 (x8 + 1)) x231000 x231001 x231002 (x231003 ++ [x9])) else (none))
end
def spec_l4build.f (k : Nat) (a0 : Int) (l1 : List (List Int)) : Option (Int × (List (List Int)) × List Int × (List (List Int))) := (spec_l4copy.f k l1).bind fun t227 => ((spec_l4keys.f k l1).bind fun t231 => (spec_l4build.l0 k a0 l1 ([] : List (List Int)) 0 a0 t227 t231))
theorem spec_l4build.mono_l : ∀ k, (∀ y0 y1 y2 y3 y4 y5 y6, LeO (spec_l4build.l0 k y0 y1 y2 y3 y4 y5 y6) (spec_l4build.l0 (k + 1) y0 y1 y2 y3 y4 y5 y6)) ∧ (∀ y0 y1 y2 y3 y4 y5 y6 y7, LeO (spec_l4build.l1 k y0 y1 y2 y3 y4 y5 y6 y7) (spec_l4build.l1 (k + 1) y0 y1 y2 y3 y4 y5 y6 y7)) ∧ (∀ y0 y1 y2 y3 y4 y5 y6 y7 y8 y9, LeO (spec_l4build.l2 k y0 y1 y2 y3 y4 y5 y6 y7 y8 y9) (spec_l4build.l2 (k + 1) y0 y1 y2 y3 y4 y5 y6 y7 y8 y9))
 | 0 => ⟨fun _ _ _ _ _ _ _ r h => by simp [spec_l4build.l0] at h, fun _ _ _ _ _ _ _ _ r h => by simp [spec_l4build.l1] at h, fun _ _ _ _ _ _ _ _ _ _ r h => by simp [spec_l4build.l2] at h⟩
 | k + 1 => by
  obtain ⟨ih0, ih1, ih2⟩ := spec_l4build.mono_l k
  refine ⟨?_, ?_, ?_⟩
  ·intro y0 y1 y2 y3 y4 y5 y6
   unfold spec_l4build.l0
   repeat' first
   | (with_reducible exact ih0 _ _ _ _ _ _ _)
   | (with_reducible exact ih1 _ _ _ _ _ _ _ _)
   | (with_reducible exact ih2 _ _ _ _ _ _ _ _ _ _)
   | (with_reducible exact spec_Trigrams.mono _ _)
   | (with_reducible exact spec_l2inList.mono _ _ _)
   | (with_reducible exact spec_l4copy.mono _ _)
   | (with_reducible exact spec_l4keys.mono _ _)
   | (with_reducible exact LeO.refl _)
   | (with_reducible exact LeO.none _)
   | (with_reducible refine LeO.ite ?_ ?_)
   | (with_reducible refine LeO.bind ?_ (fun _ => ?_))
   | exact ih0 _ _ _ _ _ _ _
   | exact ih1 _ _ _ _ _ _ _ _
   | exact ih2 _ _ _ _ _ _ _ _ _ _
   | exact spec_Trigrams.mono _ _
   | exact spec_l2inList.mono _ _ _
   | exact spec_l4copy.mono _ _
   | exact spec_l4keys.mono _ _
   | exact LeO.none _
   | refine LeO.ite ?_ ?_
   | refine LeO.bind ?_ (fun _ => ?_)
  ·intro y0 y1 y2 y3 y4 y5 y6 y7
   unfold spec_l4build.l1
   repeat' first
   | (with_reducible exact ih0 _ _ _ _ _ _ _)
   | (with_reducible exact ih1 _ _ _ _ _ _ _ _)
   | (with_reducible exact ih2 _ _ _ _ _ _ _ _ _ _)
   | (with_reducible exact spec_Trigrams.mono _ _)
   | (with_reducible exact spec_l2inList.mono _ _ _)
   | (with_reducible exact spec_l4copy.mono _ _)
   | (with_reducible exact spec_l4keys.mono _ _)
   | (with_reducible exact LeO.refl _)
   | (with_reducible exact LeO.none _)
   | (with_reducible refine LeO.ite ?_ ?_)
   | (with_reducible refine LeO.bind ?_ (fun _ => ?_))
   | exact ih0 _ _ _ _ _ _ _
   | exact ih1 _ _ _ _ _ _ _ _
   | exact ih2 _ _ _ _ _ _ _ _ _ _
   | exact spec_Trigrams.mono _ _
   | exact spec_l2inList.mono _ _ _
   | exact spec_l4copy.mono _ _
   | exact spec_l4keys.mono _ _
   | exact LeO.none _
   | refine LeO.ite ?_ ?_
   | refine LeO.bind ?_ (fun _ => ?_)
  ·intro y0 y1 y2 y3 y4 y5 y6 y7 y8 y9
   unfold spec_l4build.l2
   repeat' first
   | (with_reducible exact ih0 _ _ _ _ _ _ _)
   | (with_reducible exact ih1 _ _ _ _ _ _ _ _)
   | (with_reducible exact ih2 _ _ _ _ _ _ _ _ _ _)
   | (with_reducible exact spec_Trigrams.mono _ _)
   | (with_reducible exact spec_l2inList.mono _ _ _)
   | (with_reducible exact spec_l4copy.mono _ _)
   | (with_reducible exact spec_l4keys.mono _ _)
   | (with_reducible exact LeO.refl _)
   | (with_reducible exact LeO.none _)
   | (with_reducible refine LeO.ite ?_ ?_)
   | (with_reducible refine LeO.bind ?_ (fun _ => ?_))
   | exact ih0 _ _ _ _ _ _ _
   | exact ih1 _ _ _ _ _ _ _ _
   | exact ih2 _ _ _ _ _ _ _ _ _ _
   | exact spec_Trigrams.mono _ _
   | exact spec_l2inList.mono _ _ _
   | exact spec_l4copy.mono _ _
   | exact spec_l4keys.mono _ _
   | exact LeO.none _
   | refine LeO.ite ?_ ?_
   | refine LeO.bind ?_ (fun _ => ?_)
theorem spec_l4build.mono : ∀ a0 a1 k, LeO (spec_l4build.f k a0 a1) (spec_l4build.f (k + 1) a0 a1) := by
 intro a0 a1 k
 obtain ⟨ih0, ih1, ih2⟩ := spec_l4build.mono_l k
 unfold spec_l4build.f
 repeat' first
   | (with_reducible exact ih0 _ _ _ _ _ _ _)
   | (with_reducible exact ih1 _ _ _ _ _ _ _ _)
   | (with_reducible exact ih2 _ _ _ _ _ _ _ _ _ _)
   | (with_reducible exact spec_Trigrams.mono _ _)
   | (with_reducible exact spec_l2inList.mono _ _ _)
   | (with_reducible exact spec_l4copy.mono _ _)
   | (with_reducible exact spec_l4keys.mono _ _)
   | (with_reducible exact LeO.refl _)
   | (with_reducible exact LeO.none _)
   | (with_reducible refine LeO.ite ?_ ?_)
   | (with_reducible refine LeO.bind ?_ (fun _ => ?_))
   | exact ih0 _ _ _ _ _ _ _
   | exact ih1 _ _ _ _ _ _ _ _
   | exact ih2 _ _ _ _ _ _ _ _ _ _
   | exact spec_Trigrams.mono _ _
   | exact spec_l2inList.mono _ _ _
   | exact spec_l4copy.mono _ _
   | exact spec_l4keys.mono _ _
   | exact LeO.none _
   | refine LeO.ite ?_ ?_
   | refine LeO.bind ?_ (fun _ => ?_)
end Go.Proofs.YtmgmdnmfalepkaaGreat.L
