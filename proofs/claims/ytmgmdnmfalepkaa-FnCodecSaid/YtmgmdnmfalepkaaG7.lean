/- Parts of the proof (see the row's own text): Lbld. -/
import Derived.Test.YtmgmdnmfalepkaaG00
import Derived.Test.YtmgmdnmfalepkaaG4
import Derived.Test.YtmgmdnmfalepkaaG5
import Derived.Test.YtmgmdnmfalepkaaG6
namespace Go.Proofs.Ytmgmdnmfalepkaa.L
open Go.RowKit Go.Proofs.YtmgmdnmfalepkaaW.PrintWords Go.Proofs.YtmgmdnmfalepkaaW.PrintLast Go.Proofs.YtmgmdnmfalepkaaW.PrintMore
attribute [local go_sem] max2_int min2_int max_two min_two max_three min_three max_four min_four
set_option linter.unusedVariables false
set_option linter.unusedSimpArgs false
mutual
def spec_l4union.l0 : Nat → List Int → List Int → List Int → Int → Int → Option (List Int)
 | 0, _, _, _, _, _ => none
 | k + 1, x0, x1, x5, x6, x7 => if x6 < (x0.length : Int) then (spec_l4union.j1 k x0 x1 x5 x6 x7 true) else (spec_l4union.j1 k x0 x1 x5 x6 x7 (decide (x7 < (x1.length : Int))))
def spec_l4union.j1 : Nat → List Int → List Int → List Int → Int → Int → Bool → Option (List Int)
 | 0, _, _, _, _, _, _ => none
 | k + 1, x0, x1, x5, x6, x7, x18 => if x18 = true then (if x7 ≥ (x1.length : Int) then (spec_l4union.j2 k x0 x1 x5 x6 x7 true) else (if x6 < (x0.length : Int) then (if 0 ≤ x6 then (if 0 ≤ x7 then (if x7 < (x1.length : Int) then (spec_l4union.j2 k x0 x1 x5 x6 x7 (decide ((rd x0 x6) ≤ (rd x1 x7)))) else (none)) else (none)) else (none)) else (spec_l4union.j2 k x0 x1 x5 x6 x7 false))) else (some x5)
def spec_l4union.j2 : Nat → List Int → List Int → List Int → Int → Int → Bool → Option (List Int)
 | 0, _, _, _, _, _, _ => none
 | k + 1, x0, x1, x5, x6, x7, x39 => if x39 = true then (if 0 ≤ x6 then (if x6 < (x0.length : Int) then (spec_l4union.j3 k x0 x1 x5 x6 x7 (rd x0 x6)) else (none)) else (none)) else (if 0 ≤ x7 then (if x7 < (x1.length : Int) then (spec_l4union.j3 k x0 x1 x5 x6 x7 (rd x1 x7)) else (none)) else (none))
def spec_l4union.j3 : Nat → List Int → List Int → List Int → Int → Int → Int → Option (List Int)
 | 0, _, _, _, _, _, _ => none
 | k + 1, x0, x1, x5, x6, x7, x8 => if x6 < (x0.length : Int) then (if 0 ≤ x6 then (spec_l4union.j4 k x0 x1 x5 x6 x7 x8 ((rd x0 x6) == x8)) else (none)) else (spec_l4union.j4 k x0 x1 x5 x6 x7 x8 false)
def spec_l4union.j4 : Nat → List Int → List Int → List Int → Int → Int → Int → Bool → Option (List Int)
 | 0, _, _, _, _, _, _, _ => none
 | k + 1, x0, x1, x5, x6, x7, x8, x59 => if x59 = true then (if x7 < (x1.length : Int) then (if 0 ≤ x7 then (if (rd x1 x7) = x8 then (if x5.length < 17592186044416 then (spec_l4union.l0 k x0 x1 (x5 ++ [x8]) (wrap64 (x6 + 1)) (wrap64 (x7 + 1))) else (none)) else (if x5.length < 17592186044416 then (spec_l4union.l0 k x0 x1 (x5 ++ [x8]) (wrap64 (x6 + 1)) x7) else (none))) else (none)) else (if x5.length < 17592186044416 then (spec_l4union.l0 k x0 x1 (x5 ++ [x8]) (wrap64 (x6 + 1)) x7) else (none))) else (if x7 < (x1.length : Int) then (if 0 ≤ x7 then (if (rd x1 x7) = x8 then (if x5.length < 17592186044416 then (spec_l4union.l0 k x0 x1 (x5 ++ [x8]) x6 (wrap64 (x7 + 1))) else (none)) else (if x5.length < 17592186044416 then (spec_l4union.l0 k x0 x1 (x5 ++ [x8]) x6 x7) else (none))) else (none)) else (if x5.length < 17592186044416 then (spec_l4union.l0 k x0 x1 (x5 ++ [x8]) x6 x7) else (none)))
end
def spec_l4union.f (k : Nat) (l0 : List Int) (l1 : List Int) : Option (List Int) := spec_l4union.l0 k l0 l1 ([] : List Int) 0 0
theorem spec_l4union.mono_l : ∀ k, (∀ y0 y1 y2 y3 y4, LeO (spec_l4union.l0 k y0 y1 y2 y3 y4) (spec_l4union.l0 (k + 1) y0 y1 y2 y3 y4)) ∧ (∀ y0 y1 y2 y3 y4 y5, LeO (spec_l4union.j1 k y0 y1 y2 y3 y4 y5) (spec_l4union.j1 (k + 1) y0 y1 y2 y3 y4 y5)) ∧ (∀ y0 y1 y2 y3 y4 y5, LeO (spec_l4union.j2 k y0 y1 y2 y3 y4 y5) (spec_l4union.j2 (k + 1) y0 y1 y2 y3 y4 y5)) ∧ (∀ y0 y1 y2 y3 y4 y5, LeO (spec_l4union.j3 k y0 y1 y2 y3 y4 y5) (spec_l4union.j3 (k + 1) y0 y1 y2 y3 y4 y5)) ∧ (∀ y0 y1 y2 y3 y4 y5 y6, LeO (spec_l4union.j4 k y0 y1 y2 y3 y4 y5 y6) (spec_l4union.j4 (k + 1) y0 y1 y2 y3 y4 y5 y6))
 | 0 => ⟨fun _ _ _ _ _ r h => by simp [spec_l4union.l0] at h, fun _ _ _ _ _ _ r h => by simp [spec_l4union.j1] at h, fun _ _ _ _ _ _ r h => by simp [spec_l4union.j2] at h, fun _ _ _ _ _ _ r h => by simp [spec_l4union.j3] at h, fun _ _ _ _ _ _ _ r h => by simp [spec_l4union.j4] at h⟩
 | k + 1 => by
  obtain ⟨ih0, ih1, ih2, ih3, ih4⟩ := spec_l4union.mono_l k
  refine ⟨?_, ?_, ?_, ?_, ?_⟩
  ·intro y0 y1 y2 y3 y4
   unfold spec_l4union.l0
   repeat' first
   | (with_reducible exact ih0 _ _ _ _ _)
   | (with_reducible exact ih1 _ _ _ _ _ _)
   | (with_reducible exact ih2 _ _ _ _ _ _)
   | (with_reducible exact ih3 _ _ _ _ _ _)
   | (with_reducible exact ih4 _ _ _ _ _ _ _)
   | (with_reducible exact LeO.refl _)
   | (with_reducible exact LeO.none _)
   | (with_reducible refine LeO.ite ?_ ?_)
   | (with_reducible refine LeO.bind ?_ (fun _ => ?_))
   | exact ih0 _ _ _ _ _
   | exact ih1 _ _ _ _ _ _
   | exact ih2 _ _ _ _ _ _
   | exact ih3 _ _ _ _ _ _
   | exact ih4 _ _ _ _ _ _ _
   | exact LeO.none _
   | refine LeO.ite ?_ ?_
   | refine LeO.bind ?_ (fun _ => ?_)
  ·intro y0 y1 y2 y3 y4 y5
   unfold spec_l4union.j1
   repeat' first
   | (with_reducible exact ih0 _ _ _ _ _)
   | (with_reducible exact ih1 _ _ _ _ _ _)
   | (with_reducible exact ih2 _ _ _ _ _ _)
   | (with_reducible exact ih3 _ _ _ _ _ _)
   | (with_reducible exact ih4 _ _ _ _ _ _ _)
   | (with_reducible exact LeO.refl _)
   | (with_reducible exact LeO.none _)
   | (with_reducible refine LeO.ite ?_ ?_)
   | (with_reducible refine LeO.bind ?_ (fun _ => ?_))
   | exact ih0 _ _ _ _ _
   | exact ih1 _ _ _ _ _ _
   | exact ih2 _ _ _ _ _ _
   | exact ih3 _ _ _ _ _ _
   | exact ih4 _ _ _ _ _ _ _
   | exact LeO.none _
   | refine LeO.ite ?_ ?_
   | refine LeO.bind ?_ (fun _ => ?_)
  ·intro y0 y1 y2 y3 y4 y5
   unfold spec_l4union.j2
   repeat' first
   | (with_reducible exact ih0 _ _ _ _ _)
   | (with_reducible exact ih1 _ _ _ _ _ _)
   | (with_reducible exact ih2 _ _ _ _ _ _)
   | (with_reducible exact ih3 _ _ _ _ _ _)
   | (with_reducible exact ih4 _ _ _ _ _ _ _)
   | (with_reducible exact LeO.refl _)
   | (with_reducible exact LeO.none _)
   | (with_reducible refine LeO.ite ?_ ?_)
   | (with_reducible refine LeO.bind ?_ (fun _ => ?_))
   | exact ih0 _ _ _ _ _
   | exact ih1 _ _ _ _ _ _
   | exact ih2 _ _ _ _ _ _
   | exact ih3 _ _ _ _ _ _
   | exact ih4 _ _ _ _ _ _ _
   | exact LeO.none _
   | refine LeO.ite ?_ ?_
   | refine LeO.bind ?_ (fun _ => ?_)
  ·intro y0 y1 y2 y3 y4 y5
   unfold spec_l4union.j3
   repeat' first
   | (with_reducible exact ih0 _ _ _ _ _)
   | (with_reducible exact ih1 _ _ _ _ _ _)
   | (with_reducible exact ih2 _ _ _ _ _ _)
   | (with_reducible exact ih3 _ _ _ _ _ _)
   | (with_reducible exact ih4 _ _ _ _ _ _ _)
   | (with_reducible exact LeO.refl _)
   | (with_reducible exact LeO.none _)
   | (with_reducible refine LeO.ite ?_ ?_)
   | (with_reducible refine LeO.bind ?_ (fun _ => ?_))
   | exact ih0 _ _ _ _ _
   | exact ih1 _ _ _ _ _ _
   | exact ih2 _ _ _ _ _ _
   | exact ih3 _ _ _ _ _ _
   | exact ih4 _ _ _ _ _ _ _
   | exact LeO.none _
   | refine LeO.ite ?_ ?_
   | refine LeO.bind ?_ (fun _ => ?_)
  ·intro y0 y1 y2 y3 y4 y5 y6
   unfold spec_l4union.j4
   repeat' first
   | (with_reducible exact ih0 _ _ _ _ _)
   | (with_reducible exact ih1 _ _ _ _ _ _)
   | (with_reducible exact ih2 _ _ _ _ _ _)
   | (with_reducible exact ih3 _ _ _ _ _ _)
   | (with_reducible exact ih4 _ _ _ _ _ _ _)
   | (with_reducible exact LeO.refl _)
   | (with_reducible exact LeO.none _)
   | (with_reducible refine LeO.ite ?_ ?_)
   | (with_reducible refine LeO.bind ?_ (fun _ => ?_))
   | exact ih0 _ _ _ _ _
   | exact ih1 _ _ _ _ _ _
   | exact ih2 _ _ _ _ _ _
   | exact ih3 _ _ _ _ _ _
   | exact ih4 _ _ _ _ _ _ _
   | exact LeO.none _
   | refine LeO.ite ?_ ?_
   | refine LeO.bind ?_ (fun _ => ?_)
theorem spec_l4union.mono : ∀ a0 a1 k, LeO (spec_l4union.f k a0 a1) (spec_l4union.f (k + 1) a0 a1) := by
 intro a0 a1 k
 obtain ⟨ih0, ih1, ih2, ih3, ih4⟩ := spec_l4union.mono_l k
 unfold spec_l4union.f
 repeat' first
   | (with_reducible exact ih0 _ _ _ _ _)
   | (with_reducible exact ih1 _ _ _ _ _ _)
   | (with_reducible exact ih2 _ _ _ _ _ _)
   | (with_reducible exact ih3 _ _ _ _ _ _)
   | (with_reducible exact ih4 _ _ _ _ _ _ _)
   | (with_reducible exact LeO.refl _)
   | (with_reducible exact LeO.none _)
   | (with_reducible refine LeO.ite ?_ ?_)
   | (with_reducible refine LeO.bind ?_ (fun _ => ?_))
   | exact ih0 _ _ _ _ _
   | exact ih1 _ _ _ _ _ _
   | exact ih2 _ _ _ _ _ _
   | exact ih3 _ _ _ _ _ _
   | exact ih4 _ _ _ _ _ _ _
   | exact LeO.none _
   | refine LeO.ite ?_ ?_
   | refine LeO.bind ?_ (fun _ => ?_)
set_option maxHeartbeats 8000000 in
set_option maxRecDepth 100000 in
theorem spec_l4union.calls (k : Nat) (A0 : Option Addr) (c0 : Nat) (l0 : List Int) (A1 : Option Addr) (c1 : Nat) (l1 : List Int) (r : List Int) (w : World) (hr0 : Kd.C (Kd.int .i64) w A0 l0.length l0) (hc0 : l0.length ≤ c0) (hr1 : Kd.C (Kd.int .i64) w A1 l1.length l1) (hc1 : l1.length ≤ c1) (h : spec_l4union.f k l0 l1 = some r) :
  Calls Try.prog 168 #[.slice A0 l0.length c0, .slice A1 l1.length c1] w fun e w' => ∃ v0_ : Value, e = .returned (v0_) ∧ Kd.R (Kd.int .i64) 3 w' w.heap.size (fun _ => True) v0_ r ∧ Below w.heap.size w w' := by
 have HR0 := zA hr0
 have HC0 := zA hc0
 clear hr0 hc0
 have HR1 := zA hr1
 have HC1 := zA hc1
 clear hr1 hc1
 have HB := zA (Below.refl w.heap.size w)
 have H : (spec_l4union.l0 k l0 l1 ([] : List Int) 0 0) = some r := h
 clear h
 have H' := zA H
 clear H
 go_enter Try.func168, Try.ntmps168
 go_wp2
 go_loopg [5, 6, 7] k (fun kq v5 v6 v7 w' => ∃ (x5_1 : List Int) (x6_1 : Int) (x7_1 : Int), v6 = .int .i64 x6_1 ∧ v7 = .int .i64 x7_1 ∧ Aside0 (spec_l4union.l0 kq l0 l1 x5_1 x6_1 x7_1 = some r) ∧ Aside0 (kq ≤ k) ∧ Aside0 (Kd.R (Kd.int .i64) 3 w' w.heap.size (fun _ => True) v5 x5_1) ∧ Aside0 (Below w.heap.size w w'))
 case atStart => exact ⟨(([] : List Int)), (0), (0), zq6, zq6, H', ⟨Nat.le_refl _⟩, ⟨zq21⟩, ⟨zq0⟩⟩
 case round =>
  clear H'
  try clear c1
  try clear p2
  obtain ⟨x5_1, x6_1, x7_1, rfl, rfl, HA, HK1, HO_5, HB⟩ := hrel
  cases gk with
  | zero => exact absurd HA.out (by simp [spec_l4union.l0])
  | succ k1 =>
   have H := HA.out
   clear HA
   simp only [spec_l4union.l0] at H
   have HC3 := zA H
   clear H
   go_upto_region 4 with (fail)
   go_cut [18] (fun v18 wc => ∃ (kq : Nat) (x18_2 : Bool), v18 = .bool x18_2 ∧ Aside0 (spec_l4union.j1 kq l0 l1 x5_1 x6_1 x7_1 x18_2 = some r) ∧ Aside0 (kq ≤ k1) ∧ Aside0 (Kd.R (Kd.int .i64) 3 wc w.heap.size (fun _ => True) u5 x5_1) ∧ Aside0 (Below w.heap.size w wc))
   case first =>
    have H := HC3.out
    clear HC3
    by_cases c4 : x6_1 < (l0.length : Int)
    ·rw [if_pos c4] at H
     have c4b0 : decide (x6_1 < (l0.length : Int)) = true := decide_eq_true c4
     clear c4
     (first | rw [c4b0] | (simp only [i64_w, i32_w]; rw [c4b0]) | skip)
     have H' := zA H
     clear H
     go_wp2
     go_meet
     case rel => exact ⟨_, (true), zq6, H', ⟨by have := HK1.out; first | omega | exact Nat.le_refl _⟩, ⟨zq8⟩, ⟨zq0⟩⟩
    ·rw [if_neg c4] at H
     have c4b0 : decide (x6_1 < (l0.length : Int)) = false := decide_eq_false c4
     clear c4
     (first | rw [c4b0] | (simp only [i64_w, i32_w]; rw [c4b0]) | skip)
     have H' := zA H
     clear H
     go_wp2
     go_meet
     case rel => exact ⟨_, (decide (x7_1 < (l1.length : Int))), zq6, H', ⟨by have := HK1.out; first | omega | exact Nat.le_refl _⟩, ⟨zq8⟩, ⟨zq0⟩⟩
   case rest =>
    clear HC3
    try clear c1
    try clear p2
    try clear c4
    try clear c4b0
    try clear p2
    obtain ⟨kq, x18_2, rfl, HA, HJ2, HO_5, HB⟩ := hcut
    cases kq with
    | zero => exact absurd HA.out (by simp [spec_l4union.j1])
    | succ kj2 =>
     have H := HA.out
     clear HA
     simp only [spec_l4union.j1] at H
     by_cases c5 : x18_2 = true
     ·subst c5
      have H1 : (if x7_1 ≥ (l1.length : Int) then (spec_l4union.j2 kj2 l0 l1 x5_1 x6_1 x7_1 true) else (if x6_1 < (l0.length : Int) then (if 0 ≤ x6_1 then (if 0 ≤ x7_1 then (if x7_1 < (l1.length : Int) then (spec_l4union.j2 kj2 l0 l1 x5_1 x6_1 x7_1 (decide ((rd l0 x6_1) ≤ (rd l1 x7_1)))) else (none)) else (none)) else (none)) else (spec_l4union.j2 kj2 l0 l1 x5_1 x6_1 x7_1 false))) = some r := by rw [if_pos rfl] at H; exact H
      clear H
      have H := H1
      clear H1
      have HC6 := zA H
      clear H
      go_upto_region 6 with (fail)
      go_cut [39] (fun v39 wc => ∃ (kq : Nat) (x39_5 : Bool), v39 = .bool x39_5 ∧ Aside0 (spec_l4union.j2 kq l0 l1 x5_1 x6_1 x7_1 x39_5 = some r) ∧ Aside0 (kq ≤ kj2) ∧ Aside0 (Kd.R (Kd.int .i64) 3 wc w.heap.size (fun _ => True) u5 x5_1) ∧ Aside0 (Below w.heap.size w wc))
      case first =>
       have H := HC6.out
       clear HC6
       by_cases c7 : x7_1 ≥ (l1.length : Int)
       ·rw [if_pos c7] at H
        have c7b0 : decide ((l1.length : Int) ≤ x7_1) = true := decide_eq_true c7
        clear c7
        (first | rw [c7b0] | (simp only [i64_w, i32_w]; rw [c7b0]) | skip)
        have H' := zA H
        clear H
        go_wp2
        repeat (go_quiet (fail); try go_wp2)
        go_meet
        case rel => exact ⟨_, (true), zq6, H', ⟨by have := HK1.out; have := HJ2.out; first | omega | exact Nat.le_refl _⟩, ⟨zq8⟩, ⟨zq0⟩⟩
       ·rw [if_neg c7] at H
        have c7b0 : decide ((l1.length : Int) ≤ x7_1) = false := decide_eq_false c7
        clear c7
        (first | rw [c7b0] | (simp only [i64_w, i32_w]; rw [c7b0]) | skip)
        by_cases c8 : x6_1 < (l0.length : Int)
        ·rw [if_pos c8] at H
         have c8b0 : decide (x6_1 < (l0.length : Int)) = true := decide_eq_true c8
         clear c8
         by_cases c9 : 0 ≤ x6_1
         ·rw [if_pos c9] at H
          have c9b0 : decide (0 ≤ x6_1) = true := decide_eq_true c9
          clear c9
          by_cases c10 : 0 ≤ x7_1
          ·rw [if_pos c10] at H
           have c10b0 : decide (0 ≤ x7_1) = true := decide_eq_true c10
           clear c10
           by_cases c11 : x7_1 < (l1.length : Int)
           ·rw [if_pos c11] at H
            have c11b0 : decide (x7_1 < (l1.length : Int)) = true := decide_eq_true c11
            clear c11
            have H' := zA H
            clear H
            have p241 : 0 ≤ (x6_1 : Int) := of_decide_eq_true zq4
            have q241 : x6_1 < (l0.length : Int) := of_decide_eq_true zq4
            obtain ⟨ad241, e241, hx241_0⟩ := Kd.at_int HR0.out x6_1 p241 q241
            cases e241
            replace hx241_0 := (HB.out.cell (World.block_lt_of_cell? w _ hx241_0)).trans hx241_0
            replace p241 := eq_true p241
            replace q241 := eq_true q241
            have p242 : 0 ≤ (x7_1 : Int) := of_decide_eq_true zq4
            have q242 : x7_1 < (l1.length : Int) := of_decide_eq_true zq4
            obtain ⟨ad242, e242, hx242_0⟩ := Kd.at_int HR1.out x7_1 p242 q242
            cases e242
            replace hx242_0 := (HB.out.cell (World.block_lt_of_cell? w _ hx242_0)).trans hx242_0
            replace p242 := eq_true p242
            replace q242 := eq_true q242
            go_wp2
            repeat (go_quiet (fail); try go_wp2)
            go_meet
            case rel => exact ⟨_, (decide ((rd l0 x6_1) ≤ (rd l1 x7_1))), zq6, H', ⟨by have := HK1.out; have := HJ2.out; first | omega | exact Nat.le_refl _⟩, ⟨zq8⟩, ⟨zq0⟩⟩
           ·rw [if_neg c11] at H
            exact absurd H zq14
          ·rw [if_neg c10] at H
           exact absurd H zq14
         ·rw [if_neg c9] at H
          exact absurd H zq14
        ·rw [if_neg c8] at H
         have c8b0 : decide (x6_1 < (l0.length : Int)) = false := decide_eq_false c8
         clear c8
         have H' := zA H
         clear H
         go_wp2
         repeat (go_quiet (fail); try go_wp2)
         go_meet
         case rel => exact ⟨_, (false), zq6, H', ⟨by have := HK1.out; have := HJ2.out; first | omega | exact Nat.le_refl _⟩, ⟨zq8⟩, ⟨zq0⟩⟩
      case rest =>
       clear HC6
       try clear c1
       try clear p2
       try clear q2
       try clear hx2
       try clear c4
       try clear c4b0
       try clear c5
       try clear c7
       try clear c7b0
       try clear c8
       try clear c8b0
       try clear c9
       try clear c9b0
       try clear c10
       try clear c10b0
       try clear c11
       try clear c11b0
       try clear hx241_0
       try clear hx242_0
       try clear p2
       try clear p241
       try clear p242
       try clear q241
       try clear q242
       obtain ⟨kq, x39_5, rfl, HA, HJ5, HO_5, HB⟩ := hcut
       cases kq with
       | zero => exact absurd HA.out (by simp [spec_l4union.j2])
       | succ kj5 =>
        have H := HA.out
        clear HA
        simp only [spec_l4union.j2] at H
        have HC12 := zA H
        clear H
        go_upto_if 39 with (fail)
        go_cut [8] (fun v8 wc => ∃ (kq : Nat) (x8_11 : Int), v8 = .int .i64 x8_11 ∧ Aside0 (spec_l4union.j3 kq l0 l1 x5_1 x6_1 x7_1 x8_11 = some r) ∧ Aside0 (kq ≤ kj5) ∧ Aside0 (Kd.R (Kd.int .i64) 3 wc w.heap.size (fun _ => True) u5 x5_1) ∧ Aside0 (Below w.heap.size w wc))
        case first =>
         have H := HC12.out
         clear HC12
         by_cases c13 : x39_5 = true
         ·subst c13
          have H1 : (if 0 ≤ x6_1 then (if x6_1 < (l0.length : Int) then (spec_l4union.j3 kj5 l0 l1 x5_1 x6_1 x7_1 (rd l0 x6_1)) else (none)) else (none)) = some r := by rw [if_pos rfl] at H; exact H
          clear H
          have H := H1
          clear H1
          by_cases c14 : 0 ≤ x6_1
          ·rw [if_pos c14] at H
           have c14b0 : decide (0 ≤ x6_1) = true := decide_eq_true c14
           clear c14
           (first | rw [c14b0] | (simp only [i64_w, i32_w]; rw [c14b0]) | skip)
           by_cases c15 : x6_1 < (l0.length : Int)
           ·rw [if_pos c15] at H
            have c15b0 : decide (x6_1 < (l0.length : Int)) = true := decide_eq_true c15
            clear c15
            have H' := zA H
            clear H
            have p243 : 0 ≤ (x6_1 : Int) := of_decide_eq_true zq4
            have q243 : x6_1 < (l0.length : Int) := of_decide_eq_true zq4
            obtain ⟨ad243, e243, hx243_0⟩ := Kd.at_int HR0.out x6_1 p243 q243
            cases e243
            replace hx243_0 := (HB.out.cell (World.block_lt_of_cell? w _ hx243_0)).trans hx243_0
            replace p243 := eq_true p243
            replace q243 := eq_true q243
            go_wp2
            go_meet
            case rel => exact ⟨_, (rd l0 x6_1), zq6, H', ⟨by have := HK1.out; have := HJ2.out; have := HJ5.out; first | omega | exact Nat.le_refl _⟩, ⟨zq8⟩, ⟨zq0⟩⟩
           ·rw [if_neg c15] at H
            exact absurd H zq14
          ·rw [if_neg c14] at H
           exact absurd H zq14
         ·replace c13 := Bool.eq_false_iff.mpr c13
          subst c13
          have H1 : (if 0 ≤ x7_1 then (if x7_1 < (l1.length : Int) then (spec_l4union.j3 kj5 l0 l1 x5_1 x6_1 x7_1 (rd l1 x7_1)) else (none)) else (none)) = some r := by rw [if_neg (show ¬ (false = true) by decide)] at H; exact H
          clear H
          have H := H1
          clear H1
          by_cases c16 : 0 ≤ x7_1
          ·rw [if_pos c16] at H
           have c16b0 : decide (0 ≤ x7_1) = true := decide_eq_true c16
           clear c16
           by_cases c17 : x7_1 < (l1.length : Int)
           ·rw [if_pos c17] at H
            have c17b0 : decide (x7_1 < (l1.length : Int)) = true := decide_eq_true c17
            clear c17
            have H' := zA H
            clear H
            have p244 : 0 ≤ (x7_1 : Int) := of_decide_eq_true zq4
            have q244 : x7_1 < (l1.length : Int) := of_decide_eq_true zq4
            obtain ⟨ad244, e244, hx244_0⟩ := Kd.at_int HR1.out x7_1 p244 q244
            cases e244
            replace hx244_0 := (HB.out.cell (World.block_lt_of_cell? w _ hx244_0)).trans hx244_0
            replace p244 := eq_true p244
            replace q244 := eq_true q244
            go_wp2
            go_meet
            case rel => exact ⟨_, (rd l1 x7_1), zq6, H', ⟨by have := HK1.out; have := HJ2.out; have := HJ5.out; first | omega | exact Nat.le_refl _⟩, ⟨zq8⟩, ⟨zq0⟩⟩
           ·rw [if_neg c17] at H
            exact absurd H zq14
          ·rw [if_neg c16] at H
           exact absurd H zq14
        case rest =>
         clear HC12
         try clear c1
         try clear p2
         try clear q2
         try clear hx2
         try clear c4
         try clear c4b0
         try clear c5
         try clear c7
         try clear c7b0
         try clear c8
         try clear c8b0
         try clear c9
         try clear c9b0
         try clear c10
         try clear c10b0
         try clear c11
         try clear c11b0
         try clear c13
         try clear c14
         try clear c14b0
         try clear c15
         try clear c15b0
         try clear c16
         try clear c16b0
         try clear c17
         try clear c17b0
         try clear hx241_0
         try clear hx242_0
         try clear hx243_0
         try clear hx244_0
         try clear p2
         try clear p241
         try clear p242
         try clear p243
         try clear p244
         try clear q2
         try clear q241
         try clear q242
         try clear q243
         try clear q244
         obtain ⟨kq, x8_11, rfl, HA, HJ11, HO_5, HB⟩ := hcut
         cases kq with
         | zero => exact absurd HA.out (by simp [spec_l4union.j3])
         | succ kj11 =>
          have H := HA.out
          clear HA
          simp only [spec_l4union.j3] at H
          have HC18 := zA H
          clear H
          go_upto_region 9 with (fail)
          go_cut [59] (fun v59 wc => ∃ (kq : Nat) (x59_17 : Bool), v59 = .bool x59_17 ∧ Aside0 (spec_l4union.j4 kq l0 l1 x5_1 x6_1 x7_1 x8_11 x59_17 = some r) ∧ Aside0 (kq ≤ kj11) ∧ Aside0 (Kd.R (Kd.int .i64) 3 wc w.heap.size (fun _ => True) u5 x5_1) ∧ Aside0 (Below w.heap.size w wc))
          case first =>
           have H := HC18.out
           clear HC18
           by_cases c19 : x6_1 < (l0.length : Int)
           ·rw [if_pos c19] at H
            have c19b0 : decide (x6_1 < (l0.length : Int)) = true := decide_eq_true c19
            clear c19
            (first | rw [c19b0] | (simp only [i64_w, i32_w]; rw [c19b0]) | skip)
            by_cases c20 : 0 ≤ x6_1
            ·rw [if_pos c20] at H
             have c20b0 : decide (0 ≤ x6_1) = true := decide_eq_true c20
             clear c20
             have H' := zA H
             clear H
             have p245 : 0 ≤ (x6_1 : Int) := of_decide_eq_true zq4
             have q245 : x6_1 < (l0.length : Int) := of_decide_eq_true zq4
             obtain ⟨ad245, e245, hx245_0⟩ := Kd.at_int HR0.out x6_1 p245 q245
             cases e245
             replace hx245_0 := (HB.out.cell (World.block_lt_of_cell? w _ hx245_0)).trans hx245_0
             replace p245 := eq_true p245
             replace q245 := eq_true q245
             go_wp2
             go_meet
             case rel => exact ⟨_, (((rd l0 x6_1) == x8_11)), zq6, H', ⟨by have := HK1.out; have := HJ2.out; have := HJ5.out; have := HJ11.out; first | omega | exact Nat.le_refl _⟩, ⟨zq8⟩, ⟨zq0⟩⟩
            ·rw [if_neg c20] at H
             exact absurd H zq14
           ·rw [if_neg c19] at H
            have c19b0 : decide (x6_1 < (l0.length : Int)) = false := decide_eq_false c19
            clear c19
            (first | rw [c19b0] | (simp only [i64_w, i32_w]; rw [c19b0]) | skip)
            have H' := zA H
            clear H
            go_wp2
            go_meet
            case rel => exact ⟨_, (false), zq6, H', ⟨by have := HK1.out; have := HJ2.out; have := HJ5.out; have := HJ11.out; first | omega | exact Nat.le_refl _⟩, ⟨zq8⟩, ⟨zq0⟩⟩
          case rest =>
           clear HC18
           try clear c1
           try clear c2
           try clear p2
           try clear q2
           try clear hx2
           try clear c4
           try clear c4b0
           try clear c5
           try clear c7
           try clear c7b0
           try clear c8
           try clear c8b0
           try clear c9
           try clear c9b0
           try clear c10
           try clear c10b0
           try clear c11
           try clear c11b0
           try clear c13
           try clear c14
           try clear c14b0
           try clear c15
           try clear c15b0
           try clear c16
           try clear c16b0
           try clear c17
           try clear c17b0
           try clear c19
           try clear c19b0
           try clear c20
           try clear c20b0
           try clear hx241_0
           try clear hx242_0
           try clear hx243_0
           try clear hx244_0
           try clear hx245_0
           try clear p2
           try clear p241
           try clear p242
           try clear p243
           try clear p244
           try clear p245
           try clear q2
           try clear q241
           try clear q242
           try clear q243
           try clear q244
           try clear q245
           obtain ⟨kq, x59_17, rfl, HA, HJ17, HO_5, HB⟩ := hcut
           cases kq with
           | zero => exact absurd HA.out (by simp [spec_l4union.j4])
           | succ kj17 =>
            have H := HA.out
            clear HA
            simp only [spec_l4union.j4] at H
            by_cases c21 : x59_17 = true
            ·subst c21
             have H1 : (if x7_1 < (l1.length : Int) then (if 0 ≤ x7_1 then (if (rd l1 x7_1) = x8_11 then (if x5_1.length < 17592186044416 then (spec_l4union.l0 kj17 l0 l1 (x5_1 ++ [x8_11]) (wrap64 (x6_1 + 1)) (wrap64 (x7_1 + 1))) else (none)) else (if x5_1.length < 17592186044416 then (spec_l4union.l0 kj17 l0 l1 (x5_1 ++ [x8_11]) (wrap64 (x6_1 + 1)) x7_1) else (none))) else (none)) else (if x5_1.length < 17592186044416 then (spec_l4union.l0 kj17 l0 l1 (x5_1 ++ [x8_11]) (wrap64 (x6_1 + 1)) x7_1) else (none))) = some r := by rw [if_pos rfl] at H; exact H
             clear H
             have H := H1
             clear H1
             by_cases c22 : x7_1 < (l1.length : Int)
             ·rw [if_pos c22] at H
              have c22b0 : decide (x7_1 < (l1.length : Int)) = true := decide_eq_true c22
              clear c22
              by_cases c23 : 0 ≤ x7_1
              ·rw [if_pos c23] at H
               have c23b0 : decide (0 ≤ x7_1) = true := decide_eq_true c23
               clear c23
               by_cases c24 : (rd l1 x7_1) = x8_11
               ·rw [if_pos c24] at H
                have c24b0 : ((rd l1 x7_1) == x8_11) = true := beq_iff_eq.mpr c24
                have c24b1 : ((rd l1 x7_1) != x8_11) = false := bne_eq_false_iff_eq.mpr c24
                clear c24
                by_cases c25 : x5_1.length < 17592186044416
                ·rw [if_pos c25] at H
                 have LMc25 := zA c25
                 clear c25
                 obtain ⟨y247, hy247⟩ : ∃ y_ : List Int, y_ = (x5_1 ++ [x8_11]) := ⟨_, rfl⟩
                 replace H : (spec_l4union.l0 kj17 l0 l1 y247 (wrap64 (x6_1 + 1)) (wrap64 (x7_1 + 1))) = some r := by first | (rw [hy247]; with_reducible exact H) | (have H2_ := (Option.bind_some _ _).symm.trans H; rw [hy247]; with_reducible exact H2_) | (have H2_ := (Option.bind_some _ _).symm.trans H; with_reducible exact H2_) | with_reducible exact H | (rw [hy247]; exact H) | exact H
                 have Ny247 := zA hy247
                 clear hy247
                 have H' := zA H
                 clear H
                 have p246 : 0 ≤ (x7_1 : Int) := of_decide_eq_true zq4
                 have q246 : x7_1 < (l1.length : Int) := of_decide_eq_true zq4
                 obtain ⟨ad246, e246, hx246_0⟩ := Kd.at_int HR1.out x7_1 p246 q246
                 cases e246
                 replace hx246_0 := (HB.out.cell (World.block_lt_of_cell? w _ hx246_0)).trans hx246_0
                 replace p246 := eq_true p246
                 replace q246 := eq_true q246
                 go_wp2_with (first | ((with_reducible refine gate_builtin (b := .append) (xs := #[.tmp 76, .tmp 78]) rfl ?_); (try (refine gate_guard (by rfl) ?_; dsimp only)); at_builtin; refine Kd.R_append (Kd.int .i64) (w0 := w) w.heap.size rfl (.tmp 76) (.tmp 78) 22 3 (.int .i64 0) 8 rfl Try.underlying22 info3 rfl zq13 zq3 u5 x5_1 x8_11 [.int .i64 x8_11] (fun _ => True) (fun _ => False) rfl rfl ?aP (fun _ hk => hk.elim) ?aF ?aO ?aB ?aS ?aL ?_; (case aP => exact rfl); (case aB => exact zq0); (case aF => exact (fun _ _ => trivial)); (case aO => exact zq8); (case aS => exact (below_size zq0)); (case aL => have := LMc25.out; omega); intro v248 w26 ho hb hg hat; rw [← Ny247.out] at ho; have n0_ := zA (hb); have n1_ := zA (ho); clear HB; clear HO_5; have HB := n0_; have HO249 := n1_; clear n0_ n1_; clear ho hb hg hat))
                 go_roundg kj17
                 case measure => have := HK1.out; have := HJ2.out; have := HJ5.out; have := HJ11.out; have := HJ17.out; omega
                 case rel => exact ⟨(y247), (wrap64 (x6_1 + 1)), (wrap64 (x7_1 + 1)), zq6, zq6, H', ⟨zq27⟩, ⟨by (with_reducible repeat (first | apply Kd.R_alloc | apply Kd.R_drewN | apply Kd.R_drew)); exact HO249.out⟩, ⟨zq0⟩⟩
                ·rw [if_neg c25] at H
                 exact absurd H zq14
               ·rw [if_neg c24] at H
                have c24b0 : ((rd l1 x7_1) == x8_11) = false := beq_eq_false_iff_ne.mpr c24
                have c24b1 : ((rd l1 x7_1) != x8_11) = true := bne_iff_ne.mpr c24
                by_cases c27 : x5_1.length < 17592186044416
                ·rw [if_pos c27] at H
                 have LMc27 := zA c27
                 clear c27
                 obtain ⟨y250, hy250⟩ : ∃ y_ : List Int, y_ = (x5_1 ++ [x8_11]) := ⟨_, rfl⟩
                 replace H : (spec_l4union.l0 kj17 l0 l1 y250 (wrap64 (x6_1 + 1)) x7_1) = some r := by first | (rw [hy250]; with_reducible exact H) | (have H2_ := (Option.bind_some _ _).symm.trans H; rw [hy250]; with_reducible exact H2_) | (have H2_ := (Option.bind_some _ _).symm.trans H; with_reducible exact H2_) | with_reducible exact H | (rw [hy250]; exact H) | exact H
                 have Ny250 := zA hy250
                 clear hy250
                 have H' := zA H
                 clear H
                 have p246 : 0 ≤ (x7_1 : Int) := of_decide_eq_true zq4
                 have q246 : x7_1 < (l1.length : Int) := of_decide_eq_true zq4
                 obtain ⟨ad246, e246, hx246_0⟩ := Kd.at_int HR1.out x7_1 p246 q246
                 cases e246
                 replace hx246_0 := (HB.out.cell (World.block_lt_of_cell? w _ hx246_0)).trans hx246_0
                 replace p246 := eq_true p246
                 replace q246 := eq_true q246
                 go_wp2_with (first | ((with_reducible refine gate_builtin (b := .append) (xs := #[.tmp 76, .tmp 78]) rfl ?_); (try (refine gate_guard (by rfl) ?_; dsimp only)); at_builtin; refine Kd.R_append (Kd.int .i64) (w0 := w) w.heap.size rfl (.tmp 76) (.tmp 78) 22 3 (.int .i64 0) 8 rfl Try.underlying22 info3 rfl zq13 zq3 u5 x5_1 x8_11 [.int .i64 x8_11] (fun _ => True) (fun _ => False) rfl rfl ?aP (fun _ hk => hk.elim) ?aF ?aO ?aB ?aS ?aL ?_; (case aP => exact rfl); (case aB => exact zq0); (case aF => exact (fun _ _ => trivial)); (case aO => exact zq8); (case aS => exact (below_size zq0)); (case aL => have := LMc27.out; omega); intro v251 w28 ho hb hg hat; rw [← Ny250.out] at ho; have n0_ := zA (hb); have n1_ := zA (ho); clear HB; clear HO_5; have HB := n0_; have HO252 := n1_; clear n0_ n1_; clear ho hb hg hat))
                 go_roundg kj17
                 case measure => have := HK1.out; have := HJ2.out; have := HJ5.out; have := HJ11.out; have := HJ17.out; omega
                 case rel => exact ⟨(y250), (wrap64 (x6_1 + 1)), (x7_1), zq6, zq6, H', ⟨zq27⟩, ⟨by (with_reducible repeat (first | apply Kd.R_alloc | apply Kd.R_drewN | apply Kd.R_drew)); exact HO252.out⟩, ⟨zq0⟩⟩
                ·rw [if_neg c27] at H
                 exact absurd H zq14
              ·rw [if_neg c23] at H
               exact absurd H zq14
             ·rw [if_neg c22] at H
              have c22b0 : decide (x7_1 < (l1.length : Int)) = false := decide_eq_false c22
              clear c22
              by_cases c29 : x5_1.length < 17592186044416
              ·rw [if_pos c29] at H
               have LMc29 := zA c29
               clear c29
               obtain ⟨y253, hy253⟩ : ∃ y_ : List Int, y_ = (x5_1 ++ [x8_11]) := ⟨_, rfl⟩
               replace H : (spec_l4union.l0 kj17 l0 l1 y253 (wrap64 (x6_1 + 1)) x7_1) = some r := by first | (rw [hy253]; with_reducible exact H) | (have H2_ := (Option.bind_some _ _).symm.trans H; rw [hy253]; with_reducible exact H2_) | (have H2_ := (Option.bind_some _ _).symm.trans H; with_reducible exact H2_) | with_reducible exact H | (rw [hy253]; exact H) | exact H
               have Ny253 := zA hy253
               clear hy253
               have H' := zA H
               clear H
               go_wp2_with (first | ((with_reducible refine gate_builtin (b := .append) (xs := #[.tmp 76, .tmp 78]) rfl ?_); (try (refine gate_guard (by rfl) ?_; dsimp only)); at_builtin; refine Kd.R_append (Kd.int .i64) (w0 := w) w.heap.size rfl (.tmp 76) (.tmp 78) 22 3 (.int .i64 0) 8 rfl Try.underlying22 info3 rfl zq13 zq3 u5 x5_1 x8_11 [.int .i64 x8_11] (fun _ => True) (fun _ => False) rfl rfl ?aP (fun _ hk => hk.elim) ?aF ?aO ?aB ?aS ?aL ?_; (case aP => exact rfl); (case aB => exact zq0); (case aF => exact (fun _ _ => trivial)); (case aO => exact zq8); (case aS => exact (below_size zq0)); (case aL => have := LMc29.out; omega); intro v254 w30 ho hb hg hat; rw [← Ny253.out] at ho; have n0_ := zA (hb); have n1_ := zA (ho); clear HB; clear HO_5; have HB := n0_; have HO255 := n1_; clear n0_ n1_; clear ho hb hg hat))
               go_roundg kj17
               case measure => have := HK1.out; have := HJ2.out; have := HJ5.out; have := HJ11.out; have := HJ17.out; omega
               case rel => exact ⟨(y253), (wrap64 (x6_1 + 1)), (x7_1), zq6, zq6, H', ⟨zq27⟩, ⟨by (with_reducible repeat (first | apply Kd.R_alloc | apply Kd.R_drewN | apply Kd.R_drew)); exact HO255.out⟩, ⟨zq0⟩⟩
              ·rw [if_neg c29] at H
               exact absurd H zq14
            ·replace c21 := Bool.eq_false_iff.mpr c21
             subst c21
             have H1 : (if x7_1 < (l1.length : Int) then (if 0 ≤ x7_1 then (if (rd l1 x7_1) = x8_11 then (if x5_1.length < 17592186044416 then (spec_l4union.l0 kj17 l0 l1 (x5_1 ++ [x8_11]) x6_1 (wrap64 (x7_1 + 1))) else (none)) else (if x5_1.length < 17592186044416 then (spec_l4union.l0 kj17 l0 l1 (x5_1 ++ [x8_11]) x6_1 x7_1) else (none))) else (none)) else (if x5_1.length < 17592186044416 then (spec_l4union.l0 kj17 l0 l1 (x5_1 ++ [x8_11]) x6_1 x7_1) else (none))) = some r := by rw [if_neg (show ¬ (false = true) by decide)] at H; exact H
             clear H
             have H := H1
             clear H1
             by_cases c31 : x7_1 < (l1.length : Int)
             ·rw [if_pos c31] at H
              have c31b0 : decide (x7_1 < (l1.length : Int)) = true := decide_eq_true c31
              clear c31
              by_cases c32 : 0 ≤ x7_1
              ·rw [if_pos c32] at H
               have c32b0 : decide (0 ≤ x7_1) = true := decide_eq_true c32
               clear c32
               by_cases c33 : (rd l1 x7_1) = x8_11
               ·rw [if_pos c33] at H
                have c33b0 : ((rd l1 x7_1) == x8_11) = true := beq_iff_eq.mpr c33
                have c33b1 : ((rd l1 x7_1) != x8_11) = false := bne_eq_false_iff_eq.mpr c33
                clear c33
                by_cases c34 : x5_1.length < 17592186044416
                ·rw [if_pos c34] at H
                 have LMc34 := zA c34
                 clear c34
                 obtain ⟨y257, hy257⟩ : ∃ y_ : List Int, y_ = (x5_1 ++ [x8_11]) := ⟨_, rfl⟩
                 replace H : (spec_l4union.l0 kj17 l0 l1 y257 x6_1 (wrap64 (x7_1 + 1))) = some r := by first | (rw [hy257]; with_reducible exact H) | (have H2_ := (Option.bind_some _ _).symm.trans H; rw [hy257]; with_reducible exact H2_) | (have H2_ := (Option.bind_some _ _).symm.trans H; with_reducible exact H2_) | with_reducible exact H | (rw [hy257]; exact H) | exact H
                 have Ny257 := zA hy257
                 clear hy257
                 have H' := zA H
                 clear H
                 have p256 : 0 ≤ (x7_1 : Int) := of_decide_eq_true zq4
                 have q256 : x7_1 < (l1.length : Int) := of_decide_eq_true zq4
                 obtain ⟨ad256, e256, hx256_0⟩ := Kd.at_int HR1.out x7_1 p256 q256
                 cases e256
                 replace hx256_0 := (HB.out.cell (World.block_lt_of_cell? w _ hx256_0)).trans hx256_0
                 replace p256 := eq_true p256
                 replace q256 := eq_true q256
                 go_wp2_with (first | ((with_reducible refine gate_builtin (b := .append) (xs := #[.tmp 76, .tmp 78]) rfl ?_); (try (refine gate_guard (by rfl) ?_; dsimp only)); at_builtin; refine Kd.R_append (Kd.int .i64) (w0 := w) w.heap.size rfl (.tmp 76) (.tmp 78) 22 3 (.int .i64 0) 8 rfl Try.underlying22 info3 rfl zq13 zq3 u5 x5_1 x8_11 [.int .i64 x8_11] (fun _ => True) (fun _ => False) rfl rfl ?aP (fun _ hk => hk.elim) ?aF ?aO ?aB ?aS ?aL ?_; (case aP => exact rfl); (case aB => exact zq0); (case aF => exact (fun _ _ => trivial)); (case aO => exact zq8); (case aS => exact (below_size zq0)); (case aL => have := LMc34.out; omega); intro v258 w35 ho hb hg hat; rw [← Ny257.out] at ho; have n0_ := zA (hb); have n1_ := zA (ho); clear HB; clear HO_5; have HB := n0_; have HO259 := n1_; clear n0_ n1_; clear ho hb hg hat))
                 go_roundg kj17
                 case measure => have := HK1.out; have := HJ2.out; have := HJ5.out; have := HJ11.out; have := HJ17.out; omega
                 case rel => exact ⟨(y257), (x6_1), (wrap64 (x7_1 + 1)), zq6, zq6, H', ⟨zq27⟩, ⟨by (with_reducible repeat (first | apply Kd.R_alloc | apply Kd.R_drewN | apply Kd.R_drew)); exact HO259.out⟩, ⟨zq0⟩⟩
                ·rw [if_neg c34] at H
                 exact absurd H zq14
               ·rw [if_neg c33] at H
                have c33b0 : ((rd l1 x7_1) == x8_11) = false := beq_eq_false_iff_ne.mpr c33
                have c33b1 : ((rd l1 x7_1) != x8_11) = true := bne_iff_ne.mpr c33
                by_cases c36 : x5_1.length < 17592186044416
                ·rw [if_pos c36] at H
                 have LMc36 := zA c36
                 clear c36
                 obtain ⟨y260, hy260⟩ : ∃ y_ : List Int, y_ = (x5_1 ++ [x8_11]) := ⟨_, rfl⟩
                 replace H : (spec_l4union.l0 kj17 l0 l1 y260 x6_1 x7_1) = some r := by first | (rw [hy260]; with_reducible exact H) | (have H2_ := (Option.bind_some _ _).symm.trans H; rw [hy260]; with_reducible exact H2_) | (have H2_ := (Option.bind_some _ _).symm.trans H; with_reducible exact H2_) | with_reducible exact H | (rw [hy260]; exact H) | exact H
                 have Ny260 := zA hy260
                 clear hy260
                 have H' := zA H
                 clear H
                 have p256 : 0 ≤ (x7_1 : Int) := of_decide_eq_true zq4
                 have q256 : x7_1 < (l1.length : Int) := of_decide_eq_true zq4
                 obtain ⟨ad256, e256, hx256_0⟩ := Kd.at_int HR1.out x7_1 p256 q256
                 cases e256
                 replace hx256_0 := (HB.out.cell (World.block_lt_of_cell? w _ hx256_0)).trans hx256_0
                 replace p256 := eq_true p256
                 replace q256 := eq_true q256
                 go_wp2_with (first | ((with_reducible refine gate_builtin (b := .append) (xs := #[.tmp 76, .tmp 78]) rfl ?_); (try (refine gate_guard (by rfl) ?_; dsimp only)); at_builtin; refine Kd.R_append (Kd.int .i64) (w0 := w) w.heap.size rfl (.tmp 76) (.tmp 78) 22 3 (.int .i64 0) 8 rfl Try.underlying22 info3 rfl zq13 zq3 u5 x5_1 x8_11 [.int .i64 x8_11] (fun _ => True) (fun _ => False) rfl rfl ?aP (fun _ hk => hk.elim) ?aF ?aO ?aB ?aS ?aL ?_; (case aP => exact rfl); (case aB => exact zq0); (case aF => exact (fun _ _ => trivial)); (case aO => exact zq8); (case aS => exact (below_size zq0)); (case aL => have := LMc36.out; omega); intro v261 w37 ho hb hg hat; rw [← Ny260.out] at ho; have n0_ := zA (hb); have n1_ := zA (ho); clear HB; clear HO_5; have HB := n0_; have HO262 := n1_; clear n0_ n1_; clear ho hb hg hat))
                 go_roundg kj17
                 case measure => have := HK1.out; have := HJ2.out; have := HJ5.out; have := HJ11.out; have := HJ17.out; omega
                 case rel => exact ⟨(y260), (x6_1), (x7_1), zq6, zq6, H', ⟨zq27⟩, ⟨by (with_reducible repeat (first | apply Kd.R_alloc | apply Kd.R_drewN | apply Kd.R_drew)); exact HO262.out⟩, ⟨zq0⟩⟩
                ·rw [if_neg c36] at H
                 exact absurd H zq14
              ·rw [if_neg c32] at H
               exact absurd H zq14
             ·rw [if_neg c31] at H
              have c31b0 : decide (x7_1 < (l1.length : Int)) = false := decide_eq_false c31
              clear c31
              by_cases c38 : x5_1.length < 17592186044416
              ·rw [if_pos c38] at H
               have LMc38 := zA c38
               clear c38
               obtain ⟨y263, hy263⟩ : ∃ y_ : List Int, y_ = (x5_1 ++ [x8_11]) := ⟨_, rfl⟩
               replace H : (spec_l4union.l0 kj17 l0 l1 y263 x6_1 x7_1) = some r := by first | (rw [hy263]; with_reducible exact H) | (have H2_ := (Option.bind_some _ _).symm.trans H; rw [hy263]; with_reducible exact H2_) | (have H2_ := (Option.bind_some _ _).symm.trans H; with_reducible exact H2_) | with_reducible exact H | (rw [hy263]; exact H) | exact H
               have Ny263 := zA hy263
               clear hy263
               have H' := zA H
               clear H
               go_wp2_with (first | ((with_reducible refine gate_builtin (b := .append) (xs := #[.tmp 76, .tmp 78]) rfl ?_); (try (refine gate_guard (by rfl) ?_; dsimp only)); at_builtin; refine Kd.R_append (Kd.int .i64) (w0 := w) w.heap.size rfl (.tmp 76) (.tmp 78) 22 3 (.int .i64 0) 8 rfl Try.underlying22 info3 rfl zq13 zq3 u5 x5_1 x8_11 [.int .i64 x8_11] (fun _ => True) (fun _ => False) rfl rfl ?aP (fun _ hk => hk.elim) ?aF ?aO ?aB ?aS ?aL ?_; (case aP => exact rfl); (case aB => exact zq0); (case aF => exact (fun _ _ => trivial)); (case aO => exact zq8); (case aS => exact (below_size zq0)); (case aL => have := LMc38.out; omega); intro v264 w39 ho hb hg hat; rw [← Ny263.out] at ho; have n0_ := zA (hb); have n1_ := zA (ho); clear HB; clear HO_5; have HB := n0_; have HO265 := n1_; clear n0_ n1_; clear ho hb hg hat))
               go_roundg kj17
               case measure => have := HK1.out; have := HJ2.out; have := HJ5.out; have := HJ11.out; have := HJ17.out; omega
               case rel => exact ⟨(y263), (x6_1), (x7_1), zq6, zq6, H', ⟨zq27⟩, ⟨by (with_reducible repeat (first | apply Kd.R_alloc | apply Kd.R_drewN | apply Kd.R_drew)); exact HO265.out⟩, ⟨zq0⟩⟩
              ·rw [if_neg c38] at H
               exact absurd H zq14
     ·replace c5 := Bool.eq_false_iff.mpr c5
      subst c5
      have H1 : (some x5_1) = some r := by rw [if_neg (show ¬ (false = true) by decide)] at H; exact H
      clear H
      have H := H1
      clear H1
      obtain rfl := Option.some.inj H
      go_wp2
      go_ret
      exact ⟨_, zq9, zq8, zq0⟩
def spec_l4keys.f : Nat → List (List Int) → Option (List Int)
 | 0, _ => none
 | k + 1, l0 => if (l0.length : Int) = 0 then (some ([] : List Int)) else (if (l0.length : Int) = 1 then (if 0 < (l0.length : Int) then ((spec_Trigrams.f k (rd_L1 l0 0)).bind fun t267 => (some t267)) else (none)) else (if 0 ≤ (wrap64 ((l0.length : Int) / 2)) then (if (wrap64 ((l0.length : Int) / 2)) ≤ (l0.length : Int) then ((spec_l4keys.f k (l0.take ((wrap64 ((l0.length : Int) / 2)) : Int).toNat)).bind fun t274 => ((spec_l4keys.f k (l0.drop ((wrap64 ((l0.length : Int) / 2)) : Int).toNat)).bind fun t281 => ((spec_l4union.f k t274 t281).bind fun t284 => (some t284)))) else (none)) else (none)))
theorem spec_l4keys.mono_l : ∀ k, (∀ y0, LeO (spec_l4keys.f k y0) (spec_l4keys.f (k + 1) y0))
 | 0 => fun _ r h => by simp [spec_l4keys.f] at h
 | k + 1 => by
  have ih0 := spec_l4keys.mono_l k
  ·intro y0
   unfold spec_l4keys.f
   repeat' first
   | (with_reducible exact ih0 _)
   | (with_reducible exact spec_Trigrams.mono _ _)
   | (with_reducible exact spec_l4union.mono _ _ _)
   | (with_reducible exact LeO.refl _)
   | (with_reducible exact LeO.none _)
   | (with_reducible refine LeO.ite ?_ ?_)
   | (with_reducible refine LeO.bind ?_ (fun _ => ?_))
   | exact ih0 _
   | exact spec_Trigrams.mono _ _
   | exact spec_l4union.mono _ _ _
   | exact LeO.none _
   | refine LeO.ite ?_ ?_
   | refine LeO.bind ?_ (fun _ => ?_)
theorem spec_l4keys.mono : ∀ a0 k, LeO (spec_l4keys.f k a0) (spec_l4keys.f (k + 1) a0) := by
 intro a0 k
 have ih0 := spec_l4keys.mono_l k
 exact ih0 a0
set_option maxHeartbeats 8000000 in
set_option maxRecDepth 100000 in
theorem spec_l4keys.calls (k : Nat) : ∀ (A0 : Option Addr) (c0 : Nat) (l0 : List (List Int)) (r : List Int) (w : World) (hr0 : Kd.C (Kd.slice 5 (Kd.int .u8)) w A0 l0.length l0) (hc0 : l0.length ≤ c0) (h : spec_l4keys.f k l0 = some r),
  Calls Try.prog 135 #[.slice A0 l0.length c0] w fun e w' => ∃ v0_ : Value, e = .returned (v0_) ∧ Kd.R (Kd.int .i64) 3 w' w.heap.size (fun _ => True) v0_ r ∧ Below w.heap.size w w' := by
 induction k using Nat.strongRecOn with
 | _ k ih =>
 intro A0 c0 l0 r w hr0 hc0 h
 cases k with
 | zero => exact absurd h (by simp [spec_l4keys.f])
 | succ k =>
 simp only [spec_l4keys.f] at h
 have HR0 := zA hr0
 have HC0 := zA hc0
 clear hr0 hc0
 have HB := zA (Below.refl w.heap.size w)
 have H : (if (l0.length : Int) = 0 then (some ([] : List Int)) else (if (l0.length : Int) = 1 then (if 0 < (l0.length : Int) then ((spec_Trigrams.f k (rd_L1 l0 0)).bind fun t267 => (some t267)) else (none)) else (if 0 ≤ (wrap64 ((l0.length : Int) / 2)) then (if (wrap64 ((l0.length : Int) / 2)) ≤ (l0.length : Int) then ((spec_l4keys.f k (l0.take ((wrap64 ((l0.length : Int) / 2)) : Int).toNat)).bind fun t274 => ((spec_l4keys.f k (l0.drop ((wrap64 ((l0.length : Int) / 2)) : Int).toNat)).bind fun t281 => ((spec_l4union.f k t274 t281).bind fun t284 => (some t284)))) else (none)) else (none)))) = some r := h
 clear h
 by_cases c2 : (l0.length : Int) = 0
 ·rw [if_pos c2] at H
  have c2b0 : ((l0.length : Int) == 0) = true := beq_iff_eq.mpr c2
  have c2b1 : ((l0.length : Int) != 0) = false := bne_eq_false_iff_eq.mpr c2
  clear c2
  obtain rfl := Option.some.inj H
  go_enter Try.func135, Try.ntmps135
  go_wp2
  go_ret
  exact ⟨_, zq9, zq21, zq0⟩
 ·rw [if_neg c2] at H
  have c2b0 : ((l0.length : Int) == 0) = false := beq_eq_false_iff_ne.mpr c2
  have c2b1 : ((l0.length : Int) != 0) = true := bne_iff_ne.mpr c2
  have c2b2 : ¬ (l0 = []) := fun h_ => c2 (by rw [h_]; rfl)
  by_cases c3 : (l0.length : Int) = 1
  ·rw [if_pos c3] at H
   have c3b0 : ((l0.length : Int) == 1) = true := beq_iff_eq.mpr c3
   have c3b1 : ((l0.length : Int) != 1) = false := bne_eq_false_iff_eq.mpr c3
   clear c3
   by_cases c4 : 0 < (l0.length : Int)
   ·rw [if_pos c4] at H
    have c4b0 : decide (0 < (l0.length : Int)) = true := decide_eq_true c4
    have c4b1 : decide (0 < l0.length) = true := decide_eq_true zq3
    clear c4
    replace H := Option.bind_eq_some_iff.mp H
    obtain ⟨t267, A50, H⟩ := H
    replace H : (some t267) = some r := H
    have A5 := zA A50
    clear A50
    obtain rfl := Option.some.inj H
    have p266 : 0 ≤ (0 : Int) := zq3
    have q266 : 0 < (l0.length : Int) := of_decide_eq_true zq4
    obtain ⟨ad266, A266_0, c266_0, e266, hx266_0, hl266_0, hi266_0⟩ := at_L1 HR0.out 0 p266 q266
    cases e266
    have qi266 : (0 < l0.length) = True := eq_true zq3
    (try rw [show ((0 : Int)).toNat = 0 from rfl] at hx266_0)
    (try rw [Addr.add_zero'] at hx266_0)
    have HR266_0 := zA hi266_0
    have HC266_0 := zA hl266_0
    clear hi266_0 hl266_0
    replace p266 := eq_true p266
    replace q266 := eq_true q266
    go_enter Try.func135, Try.ntmps135
    go_wp2_with (first | ((with_reducible refine gate_callee (f := 19) rfl ?_); refine goesL_ (some 15) rfl rfl Try.func19 zq12 rfl #[.slice A266_0 (rd_L1 l0 0).length c266_0] rfl zq2 ?_; (with_reducible refine (spec_Trigrams.calls k _ _ (rd_L1 l0 0) t267 _ ?side1 ?side2 A5.out).mono ?_); (case side1 => repeat (first | exact HR266_0.out | (with_reducible refine Kd.C_alloc ?_ _) | (with_reducible refine Kd.C_drewN ?_ _) | (with_reducible refine Kd.C_drew ?_))); (case side2 => exact HC266_0.out); rintro e w6 ⟨v268, rfl, ho0, hb⟩; refine ⟨_, rfl, ?_⟩; have n0_ := zA (Kd.R_lower ho0 (below_size zq0)); have n1_ := zA (below_step zq0 hb); clear HB; have HO269 := n0_; have HB := n1_; clear n0_ n1_; (try clear hb); (try clear hb2); (try clear hk); (try clear hi); (try clear ho0)))
    go_ret
    exact ⟨_, zq9, by (with_reducible repeat (first | apply Kd.R_alloc | apply Kd.R_drewN | apply Kd.R_drew)); exact HO269.out, zq0⟩
   ·rw [if_neg c4] at H
    exact absurd H zq14
  ·rw [if_neg c3] at H
   have c3b0 : ((l0.length : Int) == 1) = false := beq_eq_false_iff_ne.mpr c3
   have c3b1 : ((l0.length : Int) != 1) = true := bne_iff_ne.mpr c3
   obtain ⟨ji7, hji7⟩ : ∃ j_ : Int, (wrap64 ((l0.length : Int) / 2)) = j_ := ⟨_, rfl⟩
   replace H : (if 0 ≤ (ji7) then (if (ji7) ≤ (l0.length : Int) then ((spec_l4keys.f k (l0.take ((ji7) : Int).toNat)).bind fun t274 => ((spec_l4keys.f k (l0.drop ((ji7) : Int).toNat)).bind fun t281 => ((spec_l4union.f k t274 t281).bind fun t284 => (some t284)))) else (none)) else (none)) = some r := by first | (rw [hji7] at H; exact H) | (simp only [hji7] at H ⊢; exact H)
   have hji7w : (IntKind.i64.wrap ((l0.length : Int) / 2)) = ji7 := (i64_w _).trans hji7
   by_cases c8 : 0 ≤ (ji7)
   ·rw [if_pos c8] at H
    have c8b0 := eq_true c8
    have c8b1 : decide (0 ≤ (ji7)) = true := decide_eq_true c8
    clear c8
    by_cases c9 : (ji7) ≤ (l0.length : Int)
    ·rw [if_pos c9] at H
     have c9b0 := eq_true c9
     have c9b1 : decide ((ji7) ≤ (l0.length : Int)) = true := decide_eq_true c9
     clear c9
     obtain ⟨y270, hy270⟩ : ∃ y_ : List (List Int), y_ = (l0.take ((ji7) : Int).toNat) := ⟨_, rfl⟩
     replace H : ((spec_l4keys.f k y270).bind fun t274 => ((spec_l4keys.f k (l0.drop ((ji7) : Int).toNat)).bind fun t281 => ((spec_l4union.f k t274 t281).bind fun t284 => (some t284)))) = some r := by first | (rw [hy270]; with_reducible exact H) | (have H2_ := (Option.bind_some _ _).symm.trans H; rw [hy270]; with_reducible exact H2_) | (have H2_ := (Option.bind_some _ _).symm.trans H; with_reducible exact H2_) | with_reducible exact H | (rw [hy270]; exact H) | exact H
     have Ny270 := zA hy270
     clear hy270
     replace H := Option.bind_eq_some_iff.mp H
     obtain ⟨t274, A100, H⟩ := H
     replace H : ((spec_l4keys.f k (l0.drop ((ji7) : Int).toNat)).bind fun t281 => ((spec_l4union.f k t274 t281).bind fun t284 => (some t284))) = some r := H
     have A10 := zA A100
     clear A100
     have c11b0 := eq_true (of_decide_eq_true zq4 : 0 ≤ (ji7))
     have c12b0 := eq_true (of_decide_eq_true zq4 : (ji7) ≤ (l0.length : Int))
     obtain ⟨y277, hy277⟩ : ∃ y_ : List (List Int), y_ = (l0.drop ((ji7) : Int).toNat) := ⟨_, rfl⟩
     replace H : ((spec_l4keys.f k y277).bind fun t281 => ((spec_l4union.f k t274 t281).bind fun t284 => (some t284))) = some r := by first | (rw [hy277]; with_reducible exact H) | (have H2_ := (Option.bind_some _ _).symm.trans H; rw [hy277]; with_reducible exact H2_) | (have H2_ := (Option.bind_some _ _).symm.trans H; with_reducible exact H2_) | with_reducible exact H | (rw [hy277]; exact H) | exact H
     have Ny277 := zA hy277
     clear hy277
     replace H := Option.bind_eq_some_iff.mp H
     obtain ⟨t281, A130, H⟩ := H
     replace H : ((spec_l4union.f k t274 t281).bind fun t284 => (some t284)) = some r := H
     have A13 := zA A130
     clear A130
     replace H := Option.bind_eq_some_iff.mp H
     obtain ⟨t284, A140, H⟩ := H
     replace H : (some t284) = some r := H
     have A14 := zA A140
     clear A140
     obtain rfl := Option.some.inj H
     have q15 : ((ji7) : Int) ≤ ((l0.length : Int) : Int) := of_decide_eq_true zq4
     obtain ⟨i015, hi015, _, hsz15, _⟩ := info_parts info33
     have hroom15 : l0.length ≤ c0 := HC0.out
     have hC15 : Kd.C (Kd.slice 5 (Kd.int .u8)) _ A0 l0.length l0 := HR0.out
     have hcut15 := cut_to (P := Try.prog) 41 33 .i64 Try.underlying41 hi015 A0 l0.length c0 (ji7) (of_decide_eq_true zq4) q15 hroom15
     have hr15 := Kd.C_take (m := ((ji7) : Int).toNat) hC15 zq3
     have hy15 : y270.length = ((ji7) : Int).toNat := (by rw [Ny270.out, List.length_take]; omega)
     rw [← Ny270.out] at hr15
     rw [← hy15] at hcut15
     have HR273 := zA hr15
     have HC273 := zA (show y270.length ≤ c0 from by omega)
     clear hr15 hC15 hroom15 hi015 hsz15
     have KY15 := zA hy15
     clear hy15
     replace q15 := eq_true q15
     go_enter Try.func135, Try.ntmps135
     go_wp2_with (first | ((with_reducible refine gate_callee (f := 135) rfl ?_); refine goesL_ (some 22) rfl rfl Try.func135 zq12 rfl #[.slice A0 y270.length c0] rfl zq2 ?_; (with_reducible refine (ih k zq3 _ _ y270 t274 _ ?side1 ?side2 A10.out).mono ?_); (case side1 => repeat (first | exact HR273.out | (with_reducible refine Kd.C_alloc ?_ _) | (with_reducible refine Kd.C_drewN ?_ _) | (with_reducible refine Kd.C_drew ?_))); (case side2 => exact HC273.out); rintro e w16 ⟨v275, rfl, ho0, hb⟩; refine ⟨_, rfl, ?_⟩; have n0_ := zA (Kd.R_lower ho0 (below_size zq0)); have n1_ := zA (below_step zq0 hb); clear HB; have HO276 := n0_; have HB := n1_; clear n0_ n1_; (try clear hb); (try clear hb2); (try clear hk); (try clear hi); (try clear ho0); have q17 : ((ji7) : Int) ≤ ((l0.length : Int) : Int) := of_decide_eq_true zq4; obtain ⟨i017, hi017, _, hsz17, _⟩ := info_parts info33; have hroom17 : l0.length ≤ c0 := HC0.out; have hC17 : Kd.C (Kd.slice 5 (Kd.int .u8)) _ A0 l0.length l0 := HR0.out; have q017 : (0 : Int) ≤ ((ji7) : Int) := of_decide_eq_true zq4; have hcut17 := cut_from (P := Try.prog) 41 33 .i64 Try.underlying41 hi017 1 hsz17 A0 l0.length c0 (ji7) q017 q17; have hr17 := Kd.C_drop (m := ((ji7) : Int).toNat) (c := c0) hC17 zq3 hroom17; obtain ⟨A17, hA17⟩ : ∃ A1, A1 = (if c0 = ((ji7) : Int).toNat then A0 else (A0 : Option Addr).map (·.add (((ji7) : Int).toNat * 1))) := ⟨_, rfl⟩; obtain ⟨c17, hc17⟩ : ∃ c1, c1 = c0 - ((ji7) : Int).toNat := ⟨_, rfl⟩; have hy17 : y277.length = l0.length - ((ji7) : Int).toNat := (by rw [Ny277.out, List.length_drop] <;> omega); rw [show (l0).drop ((ji7) : Int).toNat = y277 from Ny277.out.symm] at hr17; replace hr17 : Kd.C (Kd.slice 5 (Kd.int .u8)) _ A17 y277.length y277 := (by rw [hA17]; exact hr17); rw [← hy17, ← hA17, ← hc17] at hcut17; have HR280 := zA hr17; have HC280 := zA (show y277.length ≤ c17 from by rw [hy17, hc17]; exact Nat.sub_le_sub_right hroom17 _); clear hr17 hC17 hroom17 hi017 hsz17 hc17; have KY17 := zA hy17; have KA17 := zA hA17; clear hy17 hA17; replace q17 := eq_true q17) | ((with_reducible refine gate_callee (f := 135) rfl ?_); refine goesL_ (some 26) rfl rfl Try.func135 zq12 rfl #[.slice A17 y277.length c17] rfl zq2 ?_; (with_reducible refine (ih k zq3 _ _ y277 t281 _ ?side1 ?side2 A13.out).mono ?_); (case side1 => repeat (first | exact (Kd.C_below HR280.out HB.out) | (with_reducible refine Kd.C_alloc ?_ _) | (with_reducible refine Kd.C_drewN ?_ _) | (with_reducible refine Kd.C_drew ?_))); (case side2 => exact HC280.out); rintro e w18 ⟨v282, rfl, ho0, hb⟩; refine ⟨_, rfl, ?_⟩; have n0_ := zA (Kd.R_elder' zq37 (Kd.R_base ho0) hb); have n1_ := zA (Kd.R_lower (Kd.R_new' ho0 (Kd.R_lt zq37)) (below_size zq0)); have n2_ := zA (below_step zq0 hb); clear HO276; clear HB; have HO276 := n0_; have HO283 := n1_; have HB := n2_; clear n0_ n1_ n2_; (try clear hb); (try clear hb2); (try clear hk); (try clear hi); (try clear ho0); obtain ⟨Ao19, co19, eo19⟩ := Kd.R_slice HO276.out; subst eo19; obtain ⟨Ao20, co20, eo20⟩ := Kd.R_slice HO283.out; subst eo20) | ((with_reducible refine gate_callee (f := 168) rfl ?_); refine goesL_ (some 29) rfl rfl Try.func168 zq12 rfl #[.slice Ao19 t274.length co19, .slice Ao20 t281.length co20] rfl zq2 ?_; (with_reducible refine (spec_l4union.calls k _ _ t274 _ _ t281 t284 _ ?side1 ?side2 ?side3 ?side4 A14.out).mono ?_); (case side1 => repeat (first | exact (Kd.R_reads' HO276.out).2.2 | (with_reducible refine Kd.C_alloc ?_ _) | (with_reducible refine Kd.C_drewN ?_ _) | (with_reducible refine Kd.C_drew ?_))); (case side2 => exact (Kd.R_reads' HO276.out).2.1); (case side3 => repeat (first | exact (Kd.R_reads' HO283.out).2.2 | (with_reducible refine Kd.C_alloc ?_ _) | (with_reducible refine Kd.C_drewN ?_ _) | (with_reducible refine Kd.C_drew ?_))); (case side4 => exact (Kd.R_reads' HO283.out).2.1); rintro e w21 ⟨v285, rfl, ho0, hb⟩; refine ⟨_, rfl, ?_⟩; have n0_ := zA (Kd.R_elder' zq37 (Kd.R_base ho0) hb); have n1_ := zA (Kd.R_elder' (by (with_reducible repeat (first | apply Kd.R_alloc | apply Kd.R_drewN | apply Kd.R_drew)); exact HO283.out) (Kd.R_base ho0) hb); have n2_ := zA (Kd.R_lower (Kd.R_new' (Kd.R_new' ho0 (Kd.R_lt zq37)) (Kd.R_lt (by (with_reducible repeat (first | apply Kd.R_alloc | apply Kd.R_drewN | apply Kd.R_drew)); exact HO283.out))) (below_size zq0)); have n3_ := zA (below_step zq0 hb); clear HO276; clear HO283; clear HB; have HO276 := n0_; have HO283 := n1_; have HO286 := n2_; have HB := n3_; clear n0_ n1_ n2_ n3_; (try clear hb); (try clear hb2); (try clear hk); (try clear hi); (try clear ho0)))
     go_ret
     exact ⟨_, zq45, by (with_reducible repeat (first | apply Kd.R_alloc | apply Kd.R_drewN | apply Kd.R_drew)); exact Kd.R_mono HO286.out (fun _ hk => trivial), zq0⟩
    ·rw [if_neg c9] at H
     exact absurd H zq14
   ·rw [if_neg c8] at H
    exact absurd H zq14
def spec_l2inList.l0 : Nat → List Int → Int → Int → Option (Bool)
 | 0, _, _, _ => none
 | k + 1, x0, x1, x5 => if x5 < (x0.length : Int) then (if 0 ≤ x5 then (if (rd x0 x5) = x1 then (some true) else (spec_l2inList.l0 k x0 x1 (wrap64 (x5 + 1)))) else (none)) else (some false)
def spec_l2inList.f (k : Nat) (l0 : List Int) (a1 : Int) : Option (Bool) := spec_l2inList.l0 k l0 a1 0
theorem spec_l2inList.mono_l : ∀ k, (∀ y0 y1 y2, LeO (spec_l2inList.l0 k y0 y1 y2) (spec_l2inList.l0 (k + 1) y0 y1 y2))
 | 0 => fun _ _ _ r h => by simp [spec_l2inList.l0] at h
 | k + 1 => by
  have ih0 := spec_l2inList.mono_l k
  ·intro y0 y1 y2
   unfold spec_l2inList.l0
   repeat' first
   | (with_reducible exact ih0 _ _ _)
   | (with_reducible exact LeO.refl _)
   | (with_reducible exact LeO.none _)
   | (with_reducible refine LeO.ite ?_ ?_)
   | (with_reducible refine LeO.bind ?_ (fun _ => ?_))
   | exact ih0 _ _ _
   | exact LeO.none _
   | refine LeO.ite ?_ ?_
   | refine LeO.bind ?_ (fun _ => ?_)
theorem spec_l2inList.mono : ∀ a0 a1 k, LeO (spec_l2inList.f k a0 a1) (spec_l2inList.f (k + 1) a0 a1) := by
 intro a0 a1 k
 have ih0 := spec_l2inList.mono_l k
 unfold spec_l2inList.f
 repeat' first
   | (with_reducible exact ih0 _ _ _)
   | (with_reducible exact LeO.refl _)
   | (with_reducible exact LeO.none _)
   | (with_reducible refine LeO.ite ?_ ?_)
   | (with_reducible refine LeO.bind ?_ (fun _ => ?_))
   | exact ih0 _ _ _
   | exact LeO.none _
   | refine LeO.ite ?_ ?_
   | refine LeO.bind ?_ (fun _ => ?_)
set_option maxHeartbeats 8000000 in
set_option maxRecDepth 100000 in
theorem spec_l2inList.calls (k : Nat) (A0 : Option Addr) (c0 : Nat) (l0 : List Int) (a1 : Int) (r : Bool) (w : World) (hr0 : Kd.C (Kd.int .i64) w A0 l0.length l0) (hc0 : l0.length ≤ c0) (h : spec_l2inList.f k l0 a1 = some r) :
  Calls Try.prog 136 #[.slice A0 l0.length c0, .int .i64 a1] w fun e w' => e = .returned (.bool r) ∧ Drawn0 w w' := by
 have HR0 := zA hr0
 have HC0 := zA hc0
 clear hr0 hc0
 have H : (spec_l2inList.l0 k l0 a1 0) = some r := h
 clear h
 have H' := zA H
 clear H
 go_enter Try.func136, Try.ntmps136
 go_wp2
 go_loopg [5] k (fun kq v5 w' => ∃ (x5_1 : Int), v5 = .int .i64 x5_1 ∧ Aside0 (spec_l2inList.l0 kq l0 a1 x5_1 = some r) ∧ Aside0 (kq ≤ k) ∧ Drawn0 w w')
 case atStart => exact ⟨(0), zq6, H', ⟨Nat.le_refl _⟩, zq10⟩
 case round =>
  clear H'
  try clear c1
  try clear p2
  obtain ⟨x5_1, rfl, HA, HK1, ⟨m1, rfl⟩⟩ := hrel
  cases gk with
  | zero => exact absurd HA.out (by simp [spec_l2inList.l0])
  | succ k1 =>
   have H := HA.out
   clear HA
   simp only [spec_l2inList.l0] at H
   by_cases c3 : x5_1 < (l0.length : Int)
   ·rw [if_pos c3] at H
    have c3b0 : decide (x5_1 < (l0.length : Int)) = true := decide_eq_true c3
    clear c3
    by_cases c4 : 0 ≤ x5_1
    ·rw [if_pos c4] at H
     have c4b0 : decide (0 ≤ x5_1) = true := decide_eq_true c4
     clear c4
     by_cases c5 : (rd l0 x5_1) = a1
     ·rw [if_pos c5] at H
      have c5b0 : ((rd l0 x5_1) == a1) = true := beq_iff_eq.mpr c5
      have c5b1 : ((rd l0 x5_1) != a1) = false := bne_eq_false_iff_eq.mpr c5
      clear c5
      obtain rfl := Option.some.inj H
      have p287 : 0 ≤ (x5_1 : Int) := of_decide_eq_true zq4
      have q287 : x5_1 < (l0.length : Int) := of_decide_eq_true zq4
      obtain ⟨ad287, e287, hx287_0⟩ := Kd.at_int HR0.out x5_1 p287 q287
      cases e287
      replace p287 := eq_true p287
      replace q287 := eq_true q287
      go_wp2
      go_ret
      exact ⟨zq6, zq10⟩
     ·rw [if_neg c5] at H
      have c5b0 : ((rd l0 x5_1) == a1) = false := beq_eq_false_iff_ne.mpr c5
      have c5b1 : ((rd l0 x5_1) != a1) = true := bne_iff_ne.mpr c5
      have H' := zA H
      clear H
      have p287 : 0 ≤ (x5_1 : Int) := of_decide_eq_true zq4
      have q287 : x5_1 < (l0.length : Int) := of_decide_eq_true zq4
      obtain ⟨ad287, e287, hx287_0⟩ := Kd.at_int HR0.out x5_1 p287 q287
      cases e287
      replace p287 := eq_true p287
      replace q287 := eq_true q287
      go_wp2
      go_roundg k1
      case measure => have := HK1.out; omega
      case rel => exact ⟨(wrap64 (x5_1 + 1)), zq6, H', ⟨zq39⟩, zq10⟩
    ·rw [if_neg c4] at H
     exact absurd H zq14
   ·rw [if_neg c3] at H
    have c3b0 : decide (x5_1 < (l0.length : Int)) = false := decide_eq_false c3
    clear c3
    obtain rfl := Option.some.inj H
    go_wp2
    go_ret
    exact ⟨zq6, zq10⟩
mutual
def spec_l4build.l0 : Nat → Int → List (List Int) → List (List Int) → Int → Int → List (List Int) → List Int → Option (Int × (List (List Int)) × List Int × (List (List Int)))
 | 0, _, _, _, _, _, _, _ => none
 | k + 1, x0, x1, x6, x7, x293000, x293001, x293002 => if x7 < (x1.length : Int) then (if 0 ≤ x7 then ((spec_Trigrams.f k (rd_L1 x1 x7)).bind fun t297 => (if x6.length < 5864062014805 then (spec_l4build.l0 k x0 x1 (x6 ++ [t297]) (wrap64 (x7 + 1)) x293000 x293001 x293002) else (none))) else (none)) else (spec_l4build.l1 k x0 x1 x6 0 x293000 x293001 x293002 ([] : List (List Int)))
def spec_l4build.l1 : Nat → Int → List (List Int) → List (List Int) → Int → Int → List (List Int) → List Int → List (List Int) → Option (Int × (List (List Int)) × List Int × (List (List Int)))
 | 0, _, _, _, _, _, _, _, _ => none
 | k + 1, x0, x1, x6, x8, x293000, x293001, x293002, x293003 => if x8 < (x293002.length : Int) then (spec_l4build.l2 k x0 x1 x6 x8 ([] : List Int) 0 x293000 x293001 x293002 x293003) else (some (x293000, x293001, x293002, x293003))
def spec_l4build.l2 : Nat → Int → List (List Int) → List (List Int) → Int → List Int → Int → Int → List (List Int) → List Int → List (List Int) → Option (Int × (List (List Int)) × List Int × (List (List Int)))
 | 0, _, _, _, _, _, _, _, _, _, _ => none
 | k + 1, x0, x1, x6, x8, x9, x10, x293000, x293001, x293002, x293003 => if x10 < (x1.length : Int) then (if 0 ≤ x10 then (if x10 < (x6.length : Int) then (if 0 ≤ x8 then (if x8 < (x293002.length : Int) then ((spec_l2inList.f k (rd_L3 x6 x10) (rd x293002 x8)).bind fun t305 => (if t305 = true then (if x9.length < 17592186044416 then (spec_l4build.l2 k x0 x1 x6 x8 (x9 ++ [wrap64 (x0 + x10)]) (wrap64 (x10 + 1)) x293000 x293001 x293002 x293003) else (none)) else (spec_l4build.l2 k x0 x1 x6 x8 x9 (wrap64 (x10 + 1)) x293000 x293001 x293002 x293003))) else (none)) else (none)) else (none)) else (none)) else (if x293003.length < 5864062014805 then (spec_l4build.l1 k x0 x1 x6 (wrap64 (x8 + 1)) x293000 x293001 x293002 (x293003 ++ [x9])) else (none))
end
def spec_l4build.f (k : Nat) (a0 : Int) (l1 : List (List Int)) : Option (Int × (List (List Int)) × List Int × (List (List Int))) := (spec_l4copy.f k l1).bind fun t289 => ((spec_l4keys.f k l1).bind fun t293 => (spec_l4build.l0 k a0 l1 ([] : List (List Int)) 0 a0 t289 t293))
theorem spec_l4build.mono_l : ∀ k, (∀ y0 y1 y2 y3 y4 y5 y6, LeO (spec_l4build.l0 k y0 y1 y2 y3 y4 y5 y6) (spec_l4build.l0 (k + 1) y0 y1 y2 y3 y4 y5 y6)) ∧ (∀ y0 y1 y2 y3 y4 y5 y6 y7, LeO (spec_l4build.l1 k y0 y1 y2 y3 y4 y5 y6 y7) (spec_l4build.l1 (k + 1) y0 y1 y2 y3 y4 y5 y6 y7)) ∧ (∀ y0 y1 y2 y3 y4 y5 y6 y7 y8 y9, LeO (spec_l4build.l2 k y0 y1 y2 y3 y4 y5 y6 y7 y8 y9) (spec_l4build.l2 (k + 1) y0 y1 y2 y3 y4 y5 y6 y7 y8 y9))
 | 0 => ⟨fun _ _ _ _ _ _ _ r h => by simp [spec_l4build.l0] at h, fun _ _ _ _ _ _ _ _ r h => by simp [spec_l4build.l1] at h, fun _ _ _ _ _ _ _ _ _ _ r h => by simp [spec_l4build.l2] at h⟩
 | k + 1 => by
  obtain ⟨ih0, ih1, ih2⟩ := spec_l4build.mono_l k
  refine ⟨?_, ?_, ?_⟩
  ·intro y0 y1 y2 y3 y4 y5 y6
   unfold spec_l4build.l0
   repeat' first
   | (with_reducible exact ih0 _ _ _ _ _ _ _)
   | (with_reducible exact ih1 _ _ _ _ _ _ _ _)
   | (with_reducible exact ih2 _ _ _ _ _ _ _ _ _ _)
   | (with_reducible exact spec_Trigrams.mono _ _)
   | (with_reducible exact spec_l2inList.mono _ _ _)
   | (with_reducible exact spec_l4copy.mono _ _)
   | (with_reducible exact spec_l4keys.mono _ _)
   | (with_reducible exact LeO.refl _)
   | (with_reducible exact LeO.none _)
   | (with_reducible refine LeO.ite ?_ ?_)
   | (with_reducible refine LeO.bind ?_ (fun _ => ?_))
   | exact ih0 _ _ _ _ _ _ _
   | exact ih1 _ _ _ _ _ _ _ _
   | exact ih2 _ _ _ _ _ _ _ _ _ _
   | exact spec_Trigrams.mono _ _
   | exact spec_l2inList.mono _ _ _
   | exact spec_l4copy.mono _ _
   | exact spec_l4keys.mono _ _
   | exact LeO.none _
   | refine LeO.ite ?_ ?_
   | refine LeO.bind ?_ (fun _ => ?_)
  ·intro y0 y1 y2 y3 y4 y5 y6 y7
   unfold spec_l4build.l1
   repeat' first
   | (with_reducible exact ih0 _ _ _ _ _ _ _)
   | (with_reducible exact ih1 _ _ _ _ _ _ _ _)
   | (with_reducible exact ih2 _ _ _ _ _ _ _ _ _ _)
   | (with_reducible exact spec_Trigrams.mono _ _)
   | (with_reducible exact spec_l2inList.mono _ _ _)
   | (with_reducible exact spec_l4copy.mono _ _)
   | (with_reducible exact spec_l4keys.mono _ _)
   | (with_reducible exact LeO.refl _)
   | (with_reducible exact LeO.none _)
   | (with_reducible refine LeO.ite ?_ ?_)
   | (with_reducible refine LeO.bind ?_ (fun _ => ?_))
   | exact ih0 _ _ _ _ _ _ _
   | exact ih1 _ _ _ _ _ _ _ _
   | exact ih2 _ _ _ _ _ _ _ _ _ _
   | exact spec_Trigrams.mono _ _
   | exact spec_l2inList.mono _ _ _
   | exact spec_l4copy.mono _ _
   | exact spec_l4keys.mono _ _
   | exact LeO.none _
   | refine LeO.ite ?_ ?_
   | refine LeO.bind ?_ (fun _ => ?_)
  ·intro y0 y1 y2 y3 y4 y5 y6 y7 y8 y9
   unfold spec_l4build.l2
   repeat' first
   | (with_reducible exact ih0 _ _ _ _ _ _ _)
   | (with_reducible exact ih1 _ _ _ _ _ _ _ _)
   | (with_reducible exact ih2 _ _ _ _ _ _ _ _ _ _)
   | (with_reducible exact spec_Trigrams.mono _ _)
   | (with_reducible exact spec_l2inList.mono _ _ _)
   | (with_reducible exact spec_l4copy.mono _ _)
   | (with_reducible exact spec_l4keys.mono _ _)
   | (with_reducible exact LeO.refl _)
   | (with_reducible exact LeO.none _)
   | (with_reducible refine LeO.ite ?_ ?_)
   | (with_reducible refine LeO.bind ?_ (fun _ => ?_))
   | exact ih0 _ _ _ _ _ _ _
   | exact ih1 _ _ _ _ _ _ _ _
   | exact ih2 _ _ _ _ _ _ _ _ _ _
   | exact spec_Trigrams.mono _ _
   | exact spec_l2inList.mono _ _ _
   | exact spec_l4copy.mono _ _
   | exact spec_l4keys.mono _ _
   | exact LeO.none _
   | refine LeO.ite ?_ ?_
   | refine LeO.bind ?_ (fun _ => ?_)
theorem spec_l4build.mono : ∀ a0 a1 k, LeO (spec_l4build.f k a0 a1) (spec_l4build.f (k + 1) a0 a1) := by
 intro a0 a1 k
 obtain ⟨ih0, ih1, ih2⟩ := spec_l4build.mono_l k
 unfold spec_l4build.f
 repeat' first
   | (with_reducible exact ih0 _ _ _ _ _ _ _)
   | (with_reducible exact ih1 _ _ _ _ _ _ _ _)
   | (with_reducible exact ih2 _ _ _ _ _ _ _ _ _ _)
   | (with_reducible exact spec_Trigrams.mono _ _)
   | (with_reducible exact spec_l2inList.mono _ _ _)
   | (with_reducible exact spec_l4copy.mono _ _)
   | (with_reducible exact spec_l4keys.mono _ _)
   | (with_reducible exact LeO.refl _)
   | (with_reducible exact LeO.none _)
   | (with_reducible refine LeO.ite ?_ ?_)
   | (with_reducible refine LeO.bind ?_ (fun _ => ?_))
   | exact ih0 _ _ _ _ _ _ _
   | exact ih1 _ _ _ _ _ _ _ _
   | exact ih2 _ _ _ _ _ _ _ _ _ _
   | exact spec_Trigrams.mono _ _
   | exact spec_l2inList.mono _ _ _
   | exact spec_l4copy.mono _ _
   | exact spec_l4keys.mono _ _
   | exact LeO.none _
   | refine LeO.ite ?_ ?_
   | refine LeO.bind ?_ (fun _ => ?_)
set_option maxHeartbeats 8000000 in
set_option maxRecDepth 100000 in
theorem spec_l4build.calls (k : Nat) (a0 : Int) (A1 : Option Addr) (c1 : Nat) (l1 : List (List Int)) (r1 : Int) (r2 : List (List Int)) (r3 : List Int) (r4 : List (List Int)) (w : World) (hr1 : Kd.C (Kd.slice 5 (Kd.int .u8)) w A1 l1.length l1) (hc1 : l1.length ≤ c1) (h : spec_l4build.f k a0 l1 = some (r1, r2, r3, r4)) :
  Calls Try.prog 92 #[.int .i64 a0, .slice A1 l1.length c1] w fun e w' => ∃ v1_ v2_ v3_ : Value, e = .returned (.agg #[.int .i64 r1, v1_, v2_, v3_]) ∧ Kd.S (Kd.slice 5 (Kd.int .u8)) 33 w' w.heap.size (fun _ => True) v1_ r2 ∧ Kd.R (Kd.int .i64) 3 w' w.heap.size (fun _ => True) v2_ r3 ∧ Kd.S (Kd.slice 3 (Kd.int .i64)) 22 w' w.heap.size (fun k_ => some k_ ≠ (v2_ : Value).ownBlock) v3_ r4 ∧ Below w.heap.size w w' := by
 have hu50 := Try.underlying50
 have HR1 := zA hr1
 have HC1 := zA hc1
 clear hr1 hc1
 have HB := zA (Below.refl w.heap.size w)
 have H : ((spec_l4copy.f k l1).bind fun t289 => ((spec_l4keys.f k l1).bind fun t293 => (spec_l4build.l0 k a0 l1 ([] : List (List Int)) 0 a0 t289 t293))) = some (r1, r2, r3, r4) := h
 clear h
 replace H := Option.bind_eq_some_iff.mp H
 obtain ⟨t289, A30, H⟩ := H
 replace H : ((spec_l4keys.f k l1).bind fun t293 => (spec_l4build.l0 k a0 l1 ([] : List (List Int)) 0 a0 t289 t293)) = some (r1, r2, r3, r4) := H
 have A3 := zA A30
 clear A30
 replace H := Option.bind_eq_some_iff.mp H
 obtain ⟨t293, A40, H⟩ := H
 replace H : (spec_l4build.l0 k a0 l1 ([] : List (List Int)) 0 a0 t289 t293) = some (r1, r2, r3, r4) := H
 have A4 := zA A40
 clear A40
 have H' := zA H
 clear H
 go_enter Try.func92, Try.ntmps92
 go_wp2_with (first | ((with_reducible refine gate_dst (N := 4) rfl ?_); refine box_event ?hg (N := 4) ?hd (cs := #[.int .i64 0, .slice none 0 0, .slice none 0 0, .slice none 0 0]) (t := 50) ?hr ?_; (case hd => rfl); (case hg => rfl); (case hr => first | (go_simp; done) | (go_simp; rfl)); intro gb288 hg w5 hbox hb; have n0_ := zA (below_step zq0 hb); have n1_ := zA (hbox); have n2_ := zA ((by rw [hg]; exact (below_size zq0) : w.heap.size ≤ gb288)); have n3_ := zA ((by rw [hg]; exact (below_size zq0) : w.heap.size ≤ gb288)); clear HB; have HB := n0_; have BK288 := n1_; have GW288 := n2_; have GE288 := n3_; clear n0_ n1_ n2_ n3_; clear hb hbox hg) | (go_at_call 134; (with_reducible refine (spec_l4copy.calls k _ _ l1 t289 _ ?side1 ?side2 A3.out).mono ?_); (case side1 => repeat (first | exact (Kd.C_below HR1.out HB.out) | (with_reducible refine Kd.C_alloc ?_ _) | (with_reducible refine Kd.C_drewN ?_ _) | (with_reducible refine Kd.C_drew ?_))); (case side2 => exact HC1.out); rintro e w6 ⟨v290, rfl, ho0, hb⟩; have n0_ := zA (Kd.S_lower ho0 (below_size (by repeat (first | (with_reducible first | exact HB.out | apply below_alloc | apply pw_below_drewN | apply below_drew1 | refine below_set ?_ GE288.out) | exact HB.out)))); have n1_ := zA (blk_below (g := gb288) (o := .cells #[.int .i64 0, .slice none 0 0, .slice none 0 0, .slice none 0 0] 50 (0, 0)) (by (with_reducible repeat (first | refine blk_drewN ?_ _ | refine blk_drew ?_ | refine blk_alloc ?_ _)); exact BK288.out) hb); have n2_ := zA (below_step (by repeat (first | (with_reducible first | exact HB.out | apply below_alloc | apply pw_below_drewN | apply below_drew1 | refine below_set ?_ GE288.out) | exact HB.out)) hb); clear BK288; clear HB; have HO291 := n0_; have BK288 := n1_; have HB := n2_; clear n0_ n1_ n2_; (try clear hb); (try clear hb2); (try clear hk); (try clear hi); (try clear ho0); obtain ⟨Ao7, co7, eo7⟩ := Kd.S_slice HO291.out; subst eo7) | ((with_reducible refine gate_dst (N := 5) rfl ?_); refine box_event ?hg (N := 5) ?hd (cs := #[.int .i64 0, .slice none 0 0, .slice none 0 0, .slice none 0 0]) (t := 50) ?hr ?_; (case hd => rfl); (case hg => rfl); (case hr => first | (go_simp; done) | (go_simp; rfl)); intro gb292 hg w8 hbox hb; have n0_ := zA (Kd.S_below (by (with_reducible repeat (first | apply Kd.S_alloc | apply Kd.S_drewN | apply Kd.S_drew)); exact HO291.out) hb); have n1_ := zA (blk_below (g := gb288) (o := .cells #[.int .i64 0, .slice none 0 0, .slice none 0 0, .slice none 0 0] 50 (0, 0)) (by (with_reducible repeat (first | refine blk_drewN ?_ _ | refine blk_drew ?_ | refine blk_alloc ?_ _)); exact BK288.out) hb); have n2_ := zA (below_step (by repeat (first | (with_reducible first | exact HB.out | apply below_alloc | apply pw_below_drewN | apply below_drew1 | refine below_set ?_ GE288.out) | exact HB.out)) hb); have n3_ := zA (hbox); have n4_ := zA ((by rw [hg]; exact (below_size (by repeat (first | (with_reducible first | exact HB.out | apply below_alloc | apply pw_below_drewN | apply below_drew1 | refine below_set ?_ GE288.out) | exact HB.out))) : w.heap.size ≤ gb292)); have n5_ := zA ((by rw [hg]; exact (below_size (by repeat (first | (with_reducible first | exact HB.out | apply below_alloc | apply pw_below_drewN | apply below_drew1 | refine below_set ?_ GE288.out) | exact HB.out))) : w.heap.size ≤ gb292)); have n6_ := zA ((by rw [hg]; exact Nat.ne_of_lt (blk_lt (g := gb288) (o := .cells #[.int .i64 0, .slice none 0 0, .slice none 0 0, .slice none 0 0] 50 (0, 0)) (by (with_reducible repeat (first | refine blk_drewN ?_ _ | refine blk_drew ?_ | refine blk_alloc ?_ _)); exact BK288.out)) : gb288 ≠ gb292)); have n7_ := zA ((by rw [hg]; exact Nat.ne_of_gt (blk_lt (g := gb288) (o := .cells #[.int .i64 0, .slice none 0 0, .slice none 0 0, .slice none 0 0] 50 (0, 0)) (by (with_reducible repeat (first | refine blk_drewN ?_ _ | refine blk_drew ?_ | refine blk_alloc ?_ _)); exact BK288.out)) : gb292 ≠ gb288)); clear HO291; clear BK288; clear HB; have HO291 := n0_; have BK288 := n1_; have HB := n2_; have BK292 := n3_; have GW292 := n4_; have GE292 := n5_; have NB288_292 := n6_; have NB292_288 := n7_; clear n0_ n1_ n2_ n3_ n4_ n5_ n6_ n7_; clear hb hbox hg; have hnb9 := NB292_288.out; have hnc9 := NB288_292.out; have hcz10_0 : w8.cell? ⟨gb292, 0, none⟩ = some (.int .i64 0) := (blk_cell BK292.out 0).trans rfl; have hcz10_1 : w8.cell? ⟨gb292, 1, none⟩ = some (.slice none 0 0) := (blk_cell BK292.out 1).trans rfl; have hcz10_2 : w8.cell? ⟨gb292, 2, none⟩ = some (.slice none 0 0) := (blk_cell BK292.out 2).trans rfl; have hcz10_3 : w8.cell? ⟨gb292, 3, none⟩ = some (.slice none 0 0) := (blk_cell BK292.out 3).trans rfl; have hfz10_0 := blk_frozen BK292.out 0; have hfz10_1 := blk_frozen BK292.out 1; have hfz10_2 := blk_frozen BK292.out 2; have hfz10_3 := blk_frozen BK292.out 3) | (go_at_call 135; (with_reducible refine (spec_l4keys.calls k _ _ l1 t293 _ ?side1 ?side2 A4.out).mono ?_); (case side1 => exact Kd.C_below HR1.out (by repeat (first | (with_reducible first | exact HB.out | apply below_alloc | apply pw_below_drewN | apply below_drew1 | refine below_set ?_ GE288.out | refine below_set ?_ GE292.out) | exact HB.out))); (case side2 => exact HC1.out); rintro e w11 ⟨v294, rfl, ho0, hb⟩; have n0_ := zA (Kd.S_below (by (with_reducible repeat (first | apply Kd.S_alloc | apply Kd.S_drewN | apply Kd.S_drew)); exact (Kd.S_mono (Kd.S_far (p := ⟨gb292, 3, none⟩) (Kd.S_far (p := ⟨gb292, 2, none⟩) (Kd.S_far (p := ⟨gb292, 1, none⟩) (Kd.S_far (p := ⟨gb292, 0, none⟩) (Kd.S_types HO291.out BK292.out zq13) (fun _ hk => hk.2) (.int .i64 a0)) (fun _ hk => hk.2) (.slice Ao7 t289.length co7)) (fun _ hk => hk.2) (.slice none 0 0)) (fun _ hk => hk.2) (.slice none 0 0)) (fun _ h_ => h_.1))) hb); have n1_ := zA (Kd.R_lower ho0 (below_size (by repeat (first | (with_reducible first | exact HB.out | apply below_alloc | apply pw_below_drewN | apply below_drew1 | refine below_set ?_ GE288.out | refine below_set ?_ GE292.out) | exact HB.out)))); have n2_ := zA (blk_below (g := gb288) (o := .cells #[.int .i64 0, .slice none 0 0, .slice none 0 0, .slice none 0 0] 50 (0, 0)) (by (with_reducible repeat (first | refine blk_drewN ?_ _ | refine blk_drew ?_ | refine blk_alloc ?_ _)); refine blk_far ?_ NB288_292.out _; (with_reducible repeat (first | refine blk_drewN ?_ _ | refine blk_drew ?_ | refine blk_alloc ?_ _)); refine blk_far ?_ NB288_292.out _; (with_reducible repeat (first | refine blk_drewN ?_ _ | refine blk_drew ?_ | refine blk_alloc ?_ _)); refine blk_far ?_ NB288_292.out _; (with_reducible repeat (first | refine blk_drewN ?_ _ | refine blk_drew ?_ | refine blk_alloc ?_ _)); refine blk_far ?_ NB288_292.out _; (with_reducible repeat (first | refine blk_drewN ?_ _ | refine blk_drew ?_ | refine blk_alloc ?_ _)); exact BK288.out) hb); have n3_ := zA (blk_below (g := gb292) (o := .cells #[.int .i64 a0, .slice Ao7 t289.length co7, .slice none 0 0, .slice none 0 0] 50 (0, 0)) (by (with_reducible repeat (first | refine blk_drewN ?_ _ | refine blk_drew ?_ | refine blk_alloc ?_ _)); refine blk_put (cs := #[.int .i64 a0, .slice Ao7 t289.length co7, .slice none 0 0, .slice none 0 0]) ?_ 3 _ rfl; (with_reducible repeat (first | refine blk_drewN ?_ _ | refine blk_drew ?_ | refine blk_alloc ?_ _)); refine blk_put (cs := #[.int .i64 a0, .slice Ao7 t289.length co7, .slice none 0 0, .slice none 0 0]) ?_ 2 _ rfl; (with_reducible repeat (first | refine blk_drewN ?_ _ | refine blk_drew ?_ | refine blk_alloc ?_ _)); refine blk_put (cs := #[.int .i64 a0, .slice none 0 0, .slice none 0 0, .slice none 0 0]) ?_ 1 _ rfl; (with_reducible repeat (first | refine blk_drewN ?_ _ | refine blk_drew ?_ | refine blk_alloc ?_ _)); refine blk_put (cs := #[.int .i64 0, .slice none 0 0, .slice none 0 0, .slice none 0 0]) ?_ 0 _ rfl; (with_reducible repeat (first | refine blk_drewN ?_ _ | refine blk_drew ?_ | refine blk_alloc ?_ _)); exact BK292.out) hb); have n4_ := zA (below_step (by repeat (first | (with_reducible first | exact HB.out | apply below_alloc | apply pw_below_drewN | apply below_drew1 | refine below_set ?_ GE288.out | refine below_set ?_ GE292.out) | exact HB.out)) hb); clear HO291; clear BK288; clear BK292; clear HB; have HO291 := n0_; have HO295 := n1_; have BK288 := n2_; have BK292 := n3_; have HB := n4_; clear n0_ n1_ n2_ n3_ n4_; (try clear hb); (try clear hb2); (try clear hk); (try clear hi); (try clear ho0); obtain ⟨Ao12, co12, eo12⟩ := Kd.R_slice HO295.out; subst eo12; have hcz13_0 : w11.cell? ⟨gb292, 0, none⟩ = some (.int .i64 a0) := (blk_cell BK292.out 0).trans rfl; have hcz13_1 : w11.cell? ⟨gb292, 1, none⟩ = some (.slice Ao7 t289.length co7) := (blk_cell BK292.out 1).trans rfl; have hcz13_2 : w11.cell? ⟨gb292, 2, none⟩ = some (.slice none 0 0) := (blk_cell BK292.out 2).trans rfl; have hcz13_3 : w11.cell? ⟨gb292, 3, none⟩ = some (.slice none 0 0) := (blk_cell BK292.out 3).trans rfl; have hfz13_0 := blk_frozen BK292.out 0; have hfz13_1 := blk_frozen BK292.out 1; have hfz13_2 := blk_frozen BK292.out 2; have hfz13_3 := blk_frozen BK292.out 3))
 go_loopg [6, 7] k (fun kq v6 v7 w' => ∃ (x6_1 : List (List Int)) (x7_1 : Int), v7 = .int .i64 x7_1 ∧ Aside0 (spec_l4build.l0 kq a0 l1 x6_1 x7_1 a0 t289 t293 = some (r1, r2, r3, r4)) ∧ Aside0 (kq ≤ k) ∧ Aside0 (Kd.S (Kd.slice 3 (Kd.int .i64)) 22 w' w.heap.size (fun k_ => some k_ ≠ ((.slice Ao12 t293.length co12) : Value).ownBlock) v6 x6_1) ∧ Aside0 (Kd.S (Kd.slice 5 (Kd.int .u8)) 33 w' w.heap.size (fun _ => True) (.slice Ao7 t289.length co7) t289) ∧ Aside0 (Kd.R (Kd.int .i64) 3 w' w.heap.size (fun _ => True) (.slice Ao12 t293.length co12) t293) ∧ Aside0 (w'.heap[gb288]? = some (.cells #[.int .i64 0, (.slice none 0 0), (.slice none 0 0), (.slice none 0 0)] 50 (0, 0))) ∧ Aside0 (w'.heap[gb292]? = some (.cells #[.int .i64 a0, (.slice Ao7 t289.length co7), (.slice Ao12 t293.length co12), (.slice none 0 0)] 50 (0, 0))) ∧ Aside0 (Below w.heap.size w w'))
 case atStart => exact ⟨(([] : List (List Int))), (0), zq6, H', ⟨Nat.le_refl _⟩, ⟨zq16⟩, ⟨by (with_reducible repeat (first | apply Kd.S_alloc | apply Kd.S_drewN | apply Kd.S_drew)); exact Kd.S_mono (Kd.S_far (p := ⟨gb292, 2, none⟩) (Kd.S_types HO291.out BK292.out zq13) (fun _ hk => hk.2) (.slice Ao12 t293.length co12)) (fun _ hk => trivial)⟩, ⟨by (with_reducible repeat (first | apply Kd.R_alloc | apply Kd.R_drewN | apply Kd.R_drew)); exact Kd.R_mono (Kd.R_far (p := ⟨gb292, 2, none⟩) (Kd.R_types HO295.out BK292.out zq13) (fun _ hk => hk.2) (.slice Ao12 t293.length co12)) (fun _ hk => trivial)⟩, ⟨by (with_reducible repeat (first | refine blk_drewN ?_ _ | refine blk_drew ?_ | refine blk_alloc ?_ _)); refine blk_far ?_ NB288_292.out _; (with_reducible repeat (first | refine blk_drewN ?_ _ | refine blk_drew ?_ | refine blk_alloc ?_ _)); exact BK288.out⟩, ⟨by (with_reducible repeat (first | refine blk_drewN ?_ _ | refine blk_drew ?_ | refine blk_alloc ?_ _)); refine blk_put (cs := #[.int .i64 a0, .slice Ao7 t289.length co7, .slice none 0 0, .slice none 0 0]) ?_ 2 _ rfl; (with_reducible repeat (first | refine blk_drewN ?_ _ | refine blk_drew ?_ | refine blk_alloc ?_ _)); exact BK292.out⟩, ⟨by repeat (first | (with_reducible first | exact HB.out | apply below_alloc | apply pw_below_drewN | apply below_drew1 | refine below_set ?_ GE288.out | refine below_set ?_ GE292.out) | exact HB.out)⟩⟩
 case round =>
  clear H'
  try clear c1
  try clear p2
  try clear c9
  try clear hcz10_0
  try clear hcz10_1
  try clear hcz10_2
  try clear hcz10_3
  try clear hcz13_0
  try clear hcz13_1
  try clear hcz13_2
  try clear hcz13_3
  try clear hfz10_0
  try clear hfz10_1
  try clear hfz10_2
  try clear hfz10_3
  try clear hfz13_0
  try clear hfz13_1
  try clear hfz13_2
  try clear hfz13_3
  obtain ⟨x6_1, x7_1, rfl, HA, HK1, HO_6, HO_293001, HO_293002, BK288, BK292, HB⟩ := hrel
  cases gk with
  | zero => exact absurd HA.out (by simp [spec_l4build.l0])
  | succ k1 =>
   have H := HA.out
   clear HA
   simp only [spec_l4build.l0] at H
   by_cases c14 : x7_1 < (l1.length : Int)
   ·rw [if_pos c14] at H
    have c14b0 : decide (x7_1 < (l1.length : Int)) = true := decide_eq_true c14
    clear c14
    by_cases c15 : 0 ≤ x7_1
    ·rw [if_pos c15] at H
     have c15b0 : decide (0 ≤ x7_1) = true := decide_eq_true c15
     clear c15
     replace H := Option.bind_eq_some_iff.mp H
     obtain ⟨t297, A160, H⟩ := H
     replace H : (if x6_1.length < 5864062014805 then (spec_l4build.l0 k1 a0 l1 (x6_1 ++ [t297]) (wrap64 (x7_1 + 1)) a0 t289 t293) else (none)) = some (r1, r2, r3, r4) := H
     have A16 := zA A160
     clear A160
     by_cases c17 : x6_1.length < 5864062014805
     ·rw [if_pos c17] at H
      have LMc17 := zA c17
      clear c17
      obtain ⟨y300, hy300⟩ : ∃ y_ : List (List Int), y_ = (x6_1 ++ [t297]) := ⟨_, rfl⟩
      replace H : (spec_l4build.l0 k1 a0 l1 y300 (wrap64 (x7_1 + 1)) a0 t289 t293) = some (r1, r2, r3, r4) := by first | (rw [hy300]; with_reducible exact H) | (have H2_ := (Option.bind_some _ _).symm.trans H; rw [hy300]; with_reducible exact H2_) | (have H2_ := (Option.bind_some _ _).symm.trans H; with_reducible exact H2_) | with_reducible exact H | (rw [hy300]; exact H) | exact H
      have Ny300 := zA hy300
      clear hy300
      have H' := zA H
      clear H
      have p296 : 0 ≤ (x7_1 : Int) := of_decide_eq_true zq4
      have q296 : x7_1 < (l1.length : Int) := of_decide_eq_true zq4
      obtain ⟨ad296, A296_0, c296_0, e296, hx296_0, hl296_0, hi296_0⟩ := at_L1 HR1.out x7_1 p296 q296
      cases e296
      replace hx296_0 := (HB.out.cell (World.block_lt_of_cell? w _ hx296_0)).trans hx296_0
      have HR296_0 := zA hi296_0
      have HC296_0 := zA hl296_0
      clear hi296_0 hl296_0
      replace p296 := eq_true p296
      replace q296 := eq_true q296
      go_wp2_with (first | (go_at_call 19; (with_reducible refine (spec_Trigrams.calls k1 _ _ (rd_L1 l1 x7_1) t297 _ ?side1 ?side2 A16.out).mono ?_); (case side1 => repeat (first | exact (Kd.C_below HR296_0.out HB.out) | (with_reducible refine Kd.C_alloc ?_ _) | (with_reducible refine Kd.C_drewN ?_ _) | (with_reducible refine Kd.C_drew ?_))); (case side2 => exact HC296_0.out); rintro e w18 ⟨v298, rfl, ho0, hb⟩; have n0_ := zA (Kd.S_elder' zq22 (Kd.R_base ho0) hb); have n1_ := zA (Kd.S_below zq17 hb); have n2_ := zA (Kd.R_elder' zq18 (Kd.R_base ho0) hb); have n3_ := zA (Kd.R_lower (Kd.R_new' ho0 (Kd.R_lt zq18)) (below_size (by repeat (first | (with_reducible first | exact HB.out | apply below_alloc | apply pw_below_drewN | apply below_drew1 | refine below_set ?_ GE288.out | refine below_set ?_ GE292.out) | exact HB.out)))); have n4_ := zA (blk_below (g := gb288) (o := .cells #[.int .i64 0, .slice none 0 0, .slice none 0 0, .slice none 0 0] 50 (0, 0)) (by (with_reducible repeat (first | refine blk_drewN ?_ _ | refine blk_drew ?_ | refine blk_alloc ?_ _)); exact BK288.out) hb); have n5_ := zA (blk_below (g := gb292) (o := .cells #[.int .i64 a0, .slice Ao7 t289.length co7, .slice Ao12 t293.length co12, .slice none 0 0] 50 (0, 0)) (by (with_reducible repeat (first | refine blk_drewN ?_ _ | refine blk_drew ?_ | refine blk_alloc ?_ _)); exact BK292.out) hb); have n6_ := zA (below_step (by repeat (first | (with_reducible first | exact HB.out | apply below_alloc | apply pw_below_drewN | apply below_drew1 | refine below_set ?_ GE288.out | refine below_set ?_ GE292.out) | exact HB.out)) hb); clear HO_6; clear HO_293001; clear HO_293002; clear BK288; clear BK292; clear HB; have HO_6 := n0_; have HO_293001 := n1_; have HO_293002 := n2_; have HO299 := n3_; have BK288 := n4_; have BK292 := n5_; have HB := n6_; clear n0_ n1_ n2_ n3_ n4_ n5_ n6_; (try clear hb); (try clear hb2); (try clear hk); (try clear hi); (try clear ho0); obtain ⟨Ao20, co20, eo20⟩ := Kd.R_slice HO299.out; subst eo20) | ((with_reducible refine gate_builtin (b := .append) (xs := #[.tmp 24, .tmp 30]) rfl ?_); at_builtin; refine Kd.S_append (Kd.slice 3 (Kd.int .i64)) (w0 := w) w.heap.size rfl (.tmp 24) (.tmp 30) 42 22 (.slice none 0 0) 24 rfl Try.underlying42 info22 rfl zq13 zq3 u6 x6_1 t297 [.slice Ao20 t297.length co20] (fun k_ => some k_ ≠ (.slice Ao12 t293.length co12 : Value).ownBlock) (fun k_ => some k_ = (.slice Ao20 t297.length co20 : Value).ownBlock) rfl rfl ?aP (fun k_ hk_ => ((Kd.R_mono (ok' := fun k_ => ((fun k_ => some k_ ≠ (.slice Ao12 t293.length co12 : Value).ownBlock)) k_ ∧ some k_ ≠ (u6 : Value).ownBlock) (Kd.R_apart' (HO299.out) (Kd.S_typed HO_6.out) zq13) (fun k_ hk => ⟨hk.1.2, hk.2⟩))).1 k_ hk_.symm) ?aF ?aO ?aB ?aS ?aL ?_; (case aP => exact Kd.M_row (Kd.R_mono (Kd.R_tight rfl (Kd.R_mono (ok' := fun k_ => ((fun k_ => some k_ ≠ (.slice Ao12 t293.length co12 : Value).ownBlock)) k_ ∧ some k_ ≠ (u6 : Value).ownBlock) (Kd.R_apart' (HO299.out) (Kd.S_typed HO_6.out) zq13) (fun k_ hk => ⟨hk.1.2, hk.2⟩))) (fun _ h_ => h_))); (case aB => exact (by repeat (first | (with_reducible first | exact HB.out | apply below_alloc | apply pw_below_drewN | apply below_drew1 | refine below_set ?_ GE288.out | refine below_set ?_ GE292.out) | exact HB.out))); (case aF => exact (fun k_ hk => Kd.fresh' (Kd.R_lt zq18) k_ hk)); (case aO => exact (by (with_reducible repeat (first | apply Kd.S_alloc | apply Kd.S_drewN | apply Kd.S_drew)); exact Kd.S_mono HO_6.out (fun k_ hk => ⟨hk.1, fun e_ => hk.2 e_⟩))); (case aS => exact (below_size (by repeat (first | (with_reducible first | exact HB.out | apply below_alloc | apply pw_below_drewN | apply below_drew1 | refine below_set ?_ GE288.out | refine below_set ?_ GE292.out) | exact HB.out)))); (case aL => have := LMc17.out; omega); intro v301 w19 ho hb hg hat; rw [← Ny300.out] at ho; have n0_ := zA (Kd.S_over' zq17 (Kd.S_typed zq22) zq13 hg); have n1_ := zA (Kd.R_over' zq18 (Kd.S_typed zq22) zq13 hg); have n2_ := zA (blk_grown (g := gb288) (o := .cells #[.int .i64 0, .slice none 0 0, .slice none 0 0, .slice none 0 0] 50 (0, 0)) (by (with_reducible repeat (first | refine blk_drewN ?_ _ | refine blk_drew ?_ | refine blk_alloc ?_ _)); exact BK288.out) hg (Kd.S_ne HO_6.out BK288.out zq13)); have n3_ := zA (blk_grown (g := gb292) (o := .cells #[.int .i64 a0, .slice Ao7 t289.length co7, .slice Ao12 t293.length co12, .slice none 0 0] 50 (0, 0)) (by (with_reducible repeat (first | refine blk_drewN ?_ _ | refine blk_drew ?_ | refine blk_alloc ?_ _)); exact BK292.out) hg (Kd.S_ne HO_6.out BK292.out zq13)); have n4_ := zA (hb); have n5_ := zA (ho); clear HO_293001; clear HO_293002; clear BK288; clear BK292; clear HB; clear HO_6; clear HO299; have HO_293001 := n0_; have HO_293002 := n1_; have BK288 := n2_; have BK292 := n3_; have HB := n4_; have HO302 := n5_; clear n0_ n1_ n2_ n3_ n4_ n5_; clear ho hb hg hat))
      go_roundg k1
      case measure => have := HK1.out; omega
      case rel => exact ⟨(y300), (wrap64 (x7_1 + 1)), zq6, H', ⟨zq39⟩, ⟨by (with_reducible repeat (first | apply Kd.S_alloc | apply Kd.S_drewN | apply Kd.S_drew)); exact HO302.out⟩, ⟨zq17⟩, ⟨by (with_reducible repeat (first | apply Kd.R_alloc | apply Kd.R_drewN | apply Kd.R_drew)); exact Kd.R_mono HO_293002.out (fun _ hk => trivial)⟩, ⟨by (with_reducible repeat (first | refine blk_drewN ?_ _ | refine blk_drew ?_ | refine blk_alloc ?_ _)); exact BK288.out⟩, ⟨by (with_reducible repeat (first | refine blk_drewN ?_ _ | refine blk_drew ?_ | refine blk_alloc ?_ _)); exact BK292.out⟩, ⟨by repeat (first | (with_reducible first | exact HB.out | apply below_alloc | apply pw_below_drewN | apply below_drew1 | refine below_set ?_ GE288.out | refine below_set ?_ GE292.out) | exact HB.out)⟩⟩
     ·rw [if_neg c17] at H
      exact absurd H zq14
    ·rw [if_neg c15] at H
     exact absurd H zq14
   ·rw [if_neg c14] at H
    have c14b0 : decide (x7_1 < (l1.length : Int)) = false := decide_eq_false c14
    clear c14
    have H' := zA H
    clear H
    go_wp2
    go_loopg [8] k1 (fun kq v8 w' => ∃ (x8_2 : Int) (x293003_2 : List (List Int)) (u293003 : Value), v8 = .int .i64 x8_2 ∧ Aside0 (spec_l4build.l1 kq a0 l1 x6_1 x8_2 a0 t289 t293 x293003_2 = some (r1, r2, r3, r4)) ∧ Aside0 (kq ≤ k1) ∧ Aside0 (Kd.S (Kd.slice 3 (Kd.int .i64)) 22 w' w.heap.size (fun k_ => some k_ ≠ ((.slice Ao12 t293.length co12) : Value).ownBlock ∧ some k_ ≠ (u293003 : Value).ownBlock) u6 x6_1) ∧ Aside0 (Kd.S (Kd.slice 5 (Kd.int .u8)) 33 w' w.heap.size (fun _ => True) (.slice Ao7 t289.length co7) t289) ∧ Aside0 (Kd.R (Kd.int .i64) 3 w' w.heap.size (fun _ => True) (.slice Ao12 t293.length co12) t293) ∧ Aside0 (Kd.S (Kd.slice 3 (Kd.int .i64)) 22 w' w.heap.size (fun k_ => some k_ ≠ (u6 : Value).ownBlock ∧ some k_ ≠ ((.slice Ao12 t293.length co12) : Value).ownBlock) u293003 x293003_2) ∧ Aside0 (w'.heap[gb288]? = some (.cells #[.int .i64 0, (.slice none 0 0), (.slice none 0 0), (.slice none 0 0)] 50 (0, 0))) ∧ Aside0 (w'.heap[gb292]? = some (.cells #[.int .i64 a0, (.slice Ao7 t289.length co7), (.slice Ao12 t293.length co12), u293003] 50 (0, 0))) ∧ Aside0 (Below w.heap.size w w'))
    case atStart => exact ⟨(0), (([] : List (List Int))), (.slice none 0 0), zq6, H', ⟨Nat.le_refl _⟩, ⟨by (with_reducible repeat (first | apply Kd.S_alloc | apply Kd.S_drewN | apply Kd.S_drew)); exact Kd.S_mono HO_6.out (fun _ hk => ⟨hk, zq26⟩)⟩, ⟨zq17⟩, ⟨zq18⟩, ⟨zq16⟩, ⟨by (with_reducible repeat (first | refine blk_drewN ?_ _ | refine blk_drew ?_ | refine blk_alloc ?_ _)); exact BK288.out⟩, ⟨by (with_reducible repeat (first | refine blk_drewN ?_ _ | refine blk_drew ?_ | refine blk_alloc ?_ _)); exact BK292.out⟩, ⟨by repeat (first | (with_reducible first | exact HB.out | apply below_alloc | apply pw_below_drewN | apply below_drew1 | refine below_set ?_ GE288.out | refine below_set ?_ GE292.out) | exact HB.out)⟩⟩
    case round =>
     clear H'
     try clear c1
     try clear c2
     try clear p2
     try clear q2
     try clear hx2
     try clear p6
     try clear c9
     try clear c14
     try clear c14b0
     try clear c15
     try clear c15b0
     try clear c17
     try clear hcz10_0
     try clear hcz10_1
     try clear hcz10_2
     try clear hcz10_3
     try clear hcz13_0
     try clear hcz13_1
     try clear hcz13_2
     try clear hcz13_3
     try clear hfz10_0
     try clear hfz10_1
     try clear hfz10_2
     try clear hfz10_3
     try clear hfz13_0
     try clear hfz13_1
     try clear hfz13_2
     try clear hfz13_3
     try clear hx296_0
     try clear p2
     try clear p296
     try clear q296
     obtain ⟨x8_2, x293003_2, u293003, rfl, HA, HK2, HO_6, HO_293001, HO_293002, HO_293003, BK288, BK292, HB⟩ := hrel
     cases gk with
     | zero => exact absurd HA.out (by simp [spec_l4build.l1])
     | succ k2 =>
      have H := HA.out
      clear HA
      simp only [spec_l4build.l1] at H
      by_cases c21 : x8_2 < (t293.length : Int)
      ·rw [if_pos c21] at H
       have c21b0 : decide (x8_2 < (t293.length : Int)) = true := decide_eq_true c21
       clear c21
       have H' := zA H
       clear H
       have hnb22 := NB292_288.out
       have hnc22 := NB288_292.out
       have hcz23_0 : wr.cell? ⟨gb292, 0, none⟩ = some (.int .i64 a0) := (blk_cell BK292.out 0).trans rfl
       have hcz23_1 : wr.cell? ⟨gb292, 1, none⟩ = some (.slice Ao7 t289.length co7) := (blk_cell BK292.out 1).trans rfl
       have hcz23_2 : wr.cell? ⟨gb292, 2, none⟩ = some (.slice Ao12 t293.length co12) := (blk_cell BK292.out 2).trans rfl
       have hcz23_3 : wr.cell? ⟨gb292, 3, none⟩ = some (u293003) := (blk_cell BK292.out 3).trans rfl
       have hfz23_0 := blk_frozen BK292.out 0
       have hfz23_1 := blk_frozen BK292.out 1
       have hfz23_2 := blk_frozen BK292.out 2
       have hfz23_3 := blk_frozen BK292.out 3
       go_wp2
       go_loopg [9, 10] k2 (fun kq v9 v10 w' => ∃ (x9_3 : List Int) (x10_3 : Int), v10 = .int .i64 x10_3 ∧ Aside0 (spec_l4build.l2 kq a0 l1 x6_1 x8_2 x9_3 x10_3 a0 t289 t293 x293003_2 = some (r1, r2, r3, r4)) ∧ Aside0 (kq ≤ k2) ∧ Aside0 (Kd.S (Kd.slice 3 (Kd.int .i64)) 22 w' w.heap.size (fun k_ => some k_ ≠ (v9 : Value).ownBlock ∧ some k_ ≠ ((.slice Ao12 t293.length co12) : Value).ownBlock ∧ some k_ ≠ (u293003 : Value).ownBlock) u6 x6_1) ∧ Aside0 (Kd.R (Kd.int .i64) 3 w' w.heap.size (fun k_ => some k_ ≠ ((.slice Ao12 t293.length co12) : Value).ownBlock) v9 x9_3) ∧ Aside0 (Kd.S (Kd.slice 5 (Kd.int .u8)) 33 w' w.heap.size (fun _ => True) (.slice Ao7 t289.length co7) t289) ∧ Aside0 (Kd.R (Kd.int .i64) 3 w' w.heap.size (fun k_ => some k_ ≠ (v9 : Value).ownBlock) (.slice Ao12 t293.length co12) t293) ∧ Aside0 (Kd.S (Kd.slice 3 (Kd.int .i64)) 22 w' w.heap.size (fun k_ => some k_ ≠ (u6 : Value).ownBlock ∧ some k_ ≠ (v9 : Value).ownBlock ∧ some k_ ≠ ((.slice Ao12 t293.length co12) : Value).ownBlock) u293003 x293003_2) ∧ Aside0 (w'.heap[gb288]? = some (.cells #[.int .i64 0, (.slice none 0 0), (.slice none 0 0), (.slice none 0 0)] 50 (0, 0))) ∧ Aside0 (w'.heap[gb292]? = some (.cells #[.int .i64 a0, (.slice Ao7 t289.length co7), (.slice Ao12 t293.length co12), u293003] 50 (0, 0))) ∧ Aside0 (Below w.heap.size w w'))
       case atStart => exact ⟨(([] : List Int)), (0), zq6, H', ⟨Nat.le_refl _⟩, ⟨by (with_reducible repeat (first | apply Kd.S_alloc | apply Kd.S_drewN | apply Kd.S_drew)); exact Kd.S_mono HO_6.out (fun _ hk => ⟨zq26, ⟨hk.1, hk.2⟩⟩)⟩, ⟨zq21⟩, ⟨zq17⟩, ⟨by (with_reducible repeat (first | apply Kd.R_alloc | apply Kd.R_drewN | apply Kd.R_drew)); exact Kd.R_mono HO_293002.out (fun _ hk => zq26)⟩, ⟨by (with_reducible repeat (first | apply Kd.S_alloc | apply Kd.S_drewN | apply Kd.S_drew)); exact Kd.S_mono HO_293003.out (fun _ hk => ⟨hk.1, ⟨zq26, hk.2⟩⟩)⟩, ⟨by (with_reducible repeat (first | refine blk_drewN ?_ _ | refine blk_drew ?_ | refine blk_alloc ?_ _)); exact BK288.out⟩, ⟨by (with_reducible repeat (first | refine blk_drewN ?_ _ | refine blk_drew ?_ | refine blk_alloc ?_ _)); exact BK292.out⟩, ⟨by repeat (first | (with_reducible first | exact HB.out | apply below_alloc | apply pw_below_drewN | apply below_drew1 | refine below_set ?_ GE288.out | refine below_set ?_ GE292.out) | exact HB.out)⟩⟩
       case round =>
        clear H'
        try clear c1
        try clear c2
        try clear p2
        try clear q2
        try clear hx2
        try clear p6
        try clear c9
        try clear c14
        try clear c14b0
        try clear c15
        try clear c15b0
        try clear c17
        try clear c21
        try clear c21b0
        try clear c22
        try clear hcz10_0
        try clear hcz10_1
        try clear hcz10_2
        try clear hcz10_3
        try clear hcz13_0
        try clear hcz13_1
        try clear hcz13_2
        try clear hcz13_3
        try clear hcz23_0
        try clear hcz23_1
        try clear hcz23_2
        try clear hcz23_3
        try clear hfz10_0
        try clear hfz10_1
        try clear hfz10_2
        try clear hfz10_3
        try clear hfz13_0
        try clear hfz13_1
        try clear hfz13_2
        try clear hfz13_3
        try clear hfz23_0
        try clear hfz23_1
        try clear hfz23_2
        try clear hfz23_3
        try clear hx296_0
        try clear p2
        try clear p296
        try clear p6
        try clear q2
        try clear q296
        obtain ⟨x9_3, x10_3, rfl, HA, HK3, HO_6, HO_9, HO_293001, HO_293002, HO_293003, BK288, BK292, HB⟩ := hrel
        cases gk with
        | zero => exact absurd HA.out (by simp [spec_l4build.l2])
        | succ k3 =>
         have H := HA.out
         clear HA
         simp only [spec_l4build.l2] at H
         by_cases c24 : x10_3 < (l1.length : Int)
         ·rw [if_pos c24] at H
          have c24b0 : decide (x10_3 < (l1.length : Int)) = true := decide_eq_true c24
          clear c24
          by_cases c25 : 0 ≤ x10_3
          ·rw [if_pos c25] at H
           have c25b0 : decide (0 ≤ x10_3) = true := decide_eq_true c25
           clear c25
           by_cases c26 : x10_3 < (x6_1.length : Int)
           ·rw [if_pos c26] at H
            have c26b0 : decide (x10_3 < (x6_1.length : Int)) = true := decide_eq_true c26
            clear c26
            by_cases c27 : 0 ≤ x8_2
            ·rw [if_pos c27] at H
             have c27b0 : decide (0 ≤ x8_2) = true := decide_eq_true c27
             clear c27
             by_cases c28 : x8_2 < (t293.length : Int)
             ·rw [if_pos c28] at H
              have c28b0 : decide (x8_2 < (t293.length : Int)) = true := decide_eq_true c28
              clear c28
              replace H := Option.bind_eq_some_iff.mp H
              obtain ⟨t305, A290, H⟩ := H
              replace H : (if t305 = true then (if x9_3.length < 17592186044416 then (spec_l4build.l2 k3 a0 l1 x6_1 x8_2 (x9_3 ++ [wrap64 (a0 + x10_3)]) (wrap64 (x10_3 + 1)) a0 t289 t293 x293003_2) else (none)) else (spec_l4build.l2 k3 a0 l1 x6_1 x8_2 x9_3 (wrap64 (x10_3 + 1)) a0 t289 t293 x293003_2)) = some (r1, r2, r3, r4) := H
              have A29 := zA A290
              clear A290
              by_cases c30 : t305 = true
              ·subst c30
               have H1 : (if x9_3.length < 17592186044416 then (spec_l4build.l2 k3 a0 l1 x6_1 x8_2 (x9_3 ++ [wrap64 (a0 + x10_3)]) (wrap64 (x10_3 + 1)) a0 t289 t293 x293003_2) else (none)) = some (r1, r2, r3, r4) := by rw [if_pos rfl] at H; exact H
               clear H
               have H := H1
               clear H1
               by_cases c31 : x9_3.length < 17592186044416
               ·rw [if_pos c31] at H
                have LMc31 := zA c31
                clear c31
                obtain ⟨y306, hy306⟩ : ∃ y_ : List Int, y_ = (x9_3 ++ [wrap64 (a0 + x10_3)]) := ⟨_, rfl⟩
                replace H : (spec_l4build.l2 k3 a0 l1 x6_1 x8_2 y306 (wrap64 (x10_3 + 1)) a0 t289 t293 x293003_2) = some (r1, r2, r3, r4) := by first | (rw [hy306]; with_reducible exact H) | (have H2_ := (Option.bind_some _ _).symm.trans H; rw [hy306]; with_reducible exact H2_) | (have H2_ := (Option.bind_some _ _).symm.trans H; with_reducible exact H2_) | with_reducible exact H | (rw [hy306]; exact H) | exact H
                have Ny306 := zA hy306
                clear hy306
                have H' := zA H
                clear H
                obtain ⟨Ao32, co32, eo32⟩ := Kd.S_slice HO_6.out
                subst eo32
                have p303 : 0 ≤ (x10_3 : Int) := of_decide_eq_true zq4
                have q303 : x10_3 < (x6_1.length : Int) := of_decide_eq_true zq4
                obtain ⟨ad303, A303_0, c303_0, e303, hx303_0, hl303_0, hi303_0⟩ := at_L3 (Kd.S_reads' HO_6.out).2.2 x10_3 p303 q303
                cases e303
                obtain ⟨ce303, hce303, hMe303, hcc303⟩ := Kd.S_get HO_6.out [] x10_3 p303 (by first | exact q303 | exact of_decide_eq_true zq4 | (have e_ := (Kd.S_reads' HO_6.out).1; omega))
                obtain ⟨ve303_0, rfl, ge303_0⟩ := hMe303
                have hv303_0 := hcc303 0 _ rfl
                rw [Nat.add_zero, show ((Kd.slice 3 (Kd.int .i64))).sz = 1 from rfl, Nat.mul_one] at hv303_0
                replace hv303_0 := Option.some.inj (hv303_0.symm.trans hx303_0)
                rw [hv303_0] at ge303_0
                have HL303_0 := zA (show Kd.R (Kd.int .i64) 3 _ _ _ _ (rd_L3 x6_1 x10_3) from ge303_0)
                clear hv303_0 ge303_0
                clear hcc303 hce303
                have HR303_0 := zA hi303_0
                have HC303_0 := zA hl303_0
                clear hi303_0 hl303_0
                replace p303 := eq_true p303
                replace q303 := eq_true q303
                have hnb33 := NB292_288.out
                have hnc33 := NB288_292.out
                have hcz34_0 : wr.cell? ⟨gb292, 0, none⟩ = some (.int .i64 a0) := (blk_cell BK292.out 0).trans rfl
                have hcz34_1 : wr.cell? ⟨gb292, 1, none⟩ = some (.slice Ao7 t289.length co7) := (blk_cell BK292.out 1).trans rfl
                have hcz34_2 : wr.cell? ⟨gb292, 2, none⟩ = some (.slice Ao12 t293.length co12) := (blk_cell BK292.out 2).trans rfl
                have hcz34_3 : wr.cell? ⟨gb292, 3, none⟩ = some (u293003) := (blk_cell BK292.out 3).trans rfl
                have hfz34_0 := blk_frozen BK292.out 0
                have hfz34_1 := blk_frozen BK292.out 1
                have hfz34_2 := blk_frozen BK292.out 2
                have hfz34_3 := blk_frozen BK292.out 3
                have p304 : 0 ≤ (x8_2 : Int) := of_decide_eq_true zq4
                have q304 : x8_2 < (t293.length : Int) := of_decide_eq_true zq4
                obtain ⟨ad304, e304, hx304_0⟩ := Kd.at_int (Kd.R_reads' HO_293002.out).2.2 x8_2 p304 q304
                cases e304
                replace p304 := eq_true p304
                replace q304 := eq_true q304
                go_wp2_with (first | (go_at_call 136; (with_reducible refine (spec_l2inList.calls k3 _ _ (rd_L3 x6_1 x10_3) (rd t293 x8_2) true _ ?side1 ?side2 A29.out).mono ?_); (case side1 => repeat (first | exact (by repeat (first | (with_reducible exact HR303_0.out) | (with_reducible refine Kd.C_alloc ?_ _) | (with_reducible refine Kd.C_drewN ?_ _) | (with_reducible refine Kd.C_drew ?_) | exact HR303_0.out)) | (with_reducible refine Kd.C_alloc ?_ _) | (with_reducible refine Kd.C_drewN ?_ _) | (with_reducible refine Kd.C_drew ?_))); (case side2 => exact HC303_0.out); rintro e w' ⟨rfl, ⟨nd, rfl⟩⟩; (try first | exact ⟨rfl, _, World.drewN_drewN _ _ _⟩ | exact ⟨rfl, _, Eq.trans (World.drewN_drewN _ _ _) (congrArg (World.drewN _) (Nat.add_assoc _ _ _))⟩)) | ((with_reducible refine gate_builtin (b := .append) (xs := #[.tmp 55, .tmp 59]) rfl ?_); at_builtin; refine Kd.R_append (Kd.int .i64) (w0 := w) w.heap.size rfl (.tmp 55) (.tmp 59) 22 3 (.int .i64 0) 8 rfl Try.underlying22 info3 rfl zq13 zq3 u9 x9_3 (wrap64 (a0 + x10_3)) [.int .i64 (wrap64 (a0 + x10_3))] (fun k_ => some k_ ≠ (.slice (some ad304) t293.length co12 : Value).ownBlock) (fun _ => False) rfl rfl ?aP (fun _ hk => hk.elim) ?aF ?aO ?aB ?aS ?aL ?_; (case aP => exact rfl); (case aB => exact (by repeat (first | (with_reducible first | exact HB.out | apply below_alloc | apply pw_below_drewN | apply below_drew1 | refine below_set ?_ GE288.out | refine below_set ?_ GE292.out) | exact HB.out))); (case aF => exact (fun k_ hk => Kd.fresh' (Kd.R_lt zq18) k_ hk)); (case aO => exact zq23); (case aS => exact (below_size (by repeat (first | (with_reducible first | exact HB.out | apply below_alloc | apply pw_below_drewN | apply below_drew1 | refine below_set ?_ GE288.out | refine below_set ?_ GE292.out) | exact HB.out)))); (case aL => have := LMc31.out; omega); intro v307 w35 ho hb hg hat; rw [← Ny306.out] at ho; have n0_ := zA (Kd.S_after (ok := (fun k_ => some k_ ≠ (.slice (some ad304) t293.length co12 : Value).ownBlock ∧ some k_ ≠ (u293003 : Value).ownBlock)) zq35 hg hat); have n1_ := zA (Kd.S_over' zq17 (Kd.R_typed zq23) zq13 hg); have n2_ := zA (Kd.R_after (ok := (fun _ => True)) zq36 hg hat); have n3_ := zA (Kd.S_after (ok := (fun k_ => some k_ ≠ (.slice (some ad303) x6_1.length co32 : Value).ownBlock ∧ some k_ ≠ (.slice (some ad304) t293.length co12 : Value).ownBlock)) zq34 hg hat); have n4_ := zA (blk_grown (g := gb288) (o := .cells #[.int .i64 0, .slice none 0 0, .slice none 0 0, .slice none 0 0] 50 (0, 0)) (by (with_reducible repeat (first | refine blk_drewN ?_ _ | refine blk_drew ?_ | refine blk_alloc ?_ _)); exact BK288.out) hg (Kd.R_ne HO_9.out BK288.out zq13)); have n5_ := zA (blk_grown (g := gb292) (o := .cells #[.int .i64 a0, .slice Ao7 t289.length co7, .slice (some ad304) t293.length co12, u293003] 50 (0, 0)) (by (with_reducible repeat (first | refine blk_drewN ?_ _ | refine blk_drew ?_ | refine blk_alloc ?_ _)); exact BK292.out) hg (Kd.R_ne HO_9.out BK292.out zq13)); have n6_ := zA (Kd.R_after (ok := (fun k_ => some k_ ≠ (.slice (some ad303) x6_1.length co32 : Value).ownBlock ∧ some k_ ≠ (.slice (some ad304) t293.length co12 : Value).ownBlock ∧ some k_ ≠ (u293003 : Value).ownBlock)) zq29 hg hat); have n7_ := zA (hb); have n8_ := zA (ho); clear HO_6; clear HO_293001; clear HO_293002; clear HO_293003; clear BK288; clear BK292; clear HL303_0; clear HB; clear HO_9; have HO_6 := n0_; have HO_293001 := n1_; have HO_293002 := n2_; have HO_293003 := n3_; have BK288 := n4_; have BK292 := n5_; have HL303_0 := n6_; have HB := n7_; have HO308 := n8_; clear n0_ n1_ n2_ n3_ n4_ n5_ n6_ n7_ n8_; clear ho hb hg hat))
                repeat (go_quiet (first | (go_at_call 136; (with_reducible refine (spec_l2inList.calls k3 _ _ (rd_L3 x6_1 x10_3) (rd t293 x8_2) true _ ?side1 ?side2 A29.out).mono ?_); (case side1 => repeat (first | exact (by repeat (first | (with_reducible exact HR303_0.out) | (with_reducible refine Kd.C_alloc ?_ _) | (with_reducible refine Kd.C_drewN ?_ _) | (with_reducible refine Kd.C_drew ?_) | exact HR303_0.out)) | (with_reducible refine Kd.C_alloc ?_ _) | (with_reducible refine Kd.C_drewN ?_ _) | (with_reducible refine Kd.C_drew ?_))); (case side2 => exact HC303_0.out); rintro e w' ⟨rfl, ⟨nd, rfl⟩⟩; (try first | exact ⟨rfl, _, World.drewN_drewN _ _ _⟩ | exact ⟨rfl, _, Eq.trans (World.drewN_drewN _ _ _) (congrArg (World.drewN _) (Nat.add_assoc _ _ _))⟩)) | ((with_reducible refine gate_builtin (b := .append) (xs := #[.tmp 55, .tmp 59]) rfl ?_); at_builtin; refine Kd.R_append (Kd.int .i64) (w0 := w) w.heap.size rfl (.tmp 55) (.tmp 59) 22 3 (.int .i64 0) 8 rfl Try.underlying22 info3 rfl zq13 zq3 u9 x9_3 (wrap64 (a0 + x10_3)) [.int .i64 (wrap64 (a0 + x10_3))] (fun k_ => some k_ ≠ (.slice (some ad304) t293.length co12 : Value).ownBlock) (fun _ => False) rfl rfl ?aP (fun _ hk => hk.elim) ?aF ?aO ?aB ?aS ?aL ?_; (case aP => exact rfl); (case aB => exact (by repeat (first | (with_reducible first | exact HB.out | apply below_alloc | apply pw_below_drewN | apply below_drew1 | refine below_set ?_ GE288.out | refine below_set ?_ GE292.out) | exact HB.out))); (case aF => exact (fun k_ hk => Kd.fresh' (Kd.R_lt zq18) k_ hk)); (case aO => exact zq23); (case aS => exact (below_size (by repeat (first | (with_reducible first | exact HB.out | apply below_alloc | apply pw_below_drewN | apply below_drew1 | refine below_set ?_ GE288.out | refine below_set ?_ GE292.out) | exact HB.out)))); (case aL => have := LMc31.out; omega); intro v307 w35 ho hb hg hat; rw [← Ny306.out] at ho; have n0_ := zA (Kd.S_after (ok := (fun k_ => some k_ ≠ (.slice (some ad304) t293.length co12 : Value).ownBlock ∧ some k_ ≠ (u293003 : Value).ownBlock)) zq35 hg hat); have n1_ := zA (Kd.S_over' zq17 (Kd.R_typed zq23) zq13 hg); have n2_ := zA (Kd.R_after (ok := (fun _ => True)) zq36 hg hat); have n3_ := zA (Kd.S_after (ok := (fun k_ => some k_ ≠ (.slice (some ad303) x6_1.length co32 : Value).ownBlock ∧ some k_ ≠ (.slice (some ad304) t293.length co12 : Value).ownBlock)) zq34 hg hat); have n4_ := zA (blk_grown (g := gb288) (o := .cells #[.int .i64 0, .slice none 0 0, .slice none 0 0, .slice none 0 0] 50 (0, 0)) (by (with_reducible repeat (first | refine blk_drewN ?_ _ | refine blk_drew ?_ | refine blk_alloc ?_ _)); exact BK288.out) hg (Kd.R_ne HO_9.out BK288.out zq13)); have n5_ := zA (blk_grown (g := gb292) (o := .cells #[.int .i64 a0, .slice Ao7 t289.length co7, .slice (some ad304) t293.length co12, u293003] 50 (0, 0)) (by (with_reducible repeat (first | refine blk_drewN ?_ _ | refine blk_drew ?_ | refine blk_alloc ?_ _)); exact BK292.out) hg (Kd.R_ne HO_9.out BK292.out zq13)); have n6_ := zA (Kd.R_after (ok := (fun k_ => some k_ ≠ (.slice (some ad303) x6_1.length co32 : Value).ownBlock ∧ some k_ ≠ (.slice (some ad304) t293.length co12 : Value).ownBlock ∧ some k_ ≠ (u293003 : Value).ownBlock)) zq29 hg hat); have n7_ := zA (hb); have n8_ := zA (ho); clear HO_6; clear HO_293001; clear HO_293002; clear HO_293003; clear BK288; clear BK292; clear HL303_0; clear HB; clear HO_9; have HO_6 := n0_; have HO_293001 := n1_; have HO_293002 := n2_; have HO_293003 := n3_; have BK288 := n4_; have BK292 := n5_; have HL303_0 := n6_; have HB := n7_; have HO308 := n8_; clear n0_ n1_ n2_ n3_ n4_ n5_ n6_ n7_ n8_; clear ho hb hg hat)); try go_wp2_with (first | (go_at_call 136; (with_reducible refine (spec_l2inList.calls k3 _ _ (rd_L3 x6_1 x10_3) (rd t293 x8_2) true _ ?side1 ?side2 A29.out).mono ?_); (case side1 => repeat (first | exact (by repeat (first | (with_reducible exact HR303_0.out) | (with_reducible refine Kd.C_alloc ?_ _) | (with_reducible refine Kd.C_drewN ?_ _) | (with_reducible refine Kd.C_drew ?_) | exact HR303_0.out)) | (with_reducible refine Kd.C_alloc ?_ _) | (with_reducible refine Kd.C_drewN ?_ _) | (with_reducible refine Kd.C_drew ?_))); (case side2 => exact HC303_0.out); rintro e w' ⟨rfl, ⟨nd, rfl⟩⟩; (try first | exact ⟨rfl, _, World.drewN_drewN _ _ _⟩ | exact ⟨rfl, _, Eq.trans (World.drewN_drewN _ _ _) (congrArg (World.drewN _) (Nat.add_assoc _ _ _))⟩)) | ((with_reducible refine gate_builtin (b := .append) (xs := #[.tmp 55, .tmp 59]) rfl ?_); at_builtin; refine Kd.R_append (Kd.int .i64) (w0 := w) w.heap.size rfl (.tmp 55) (.tmp 59) 22 3 (.int .i64 0) 8 rfl Try.underlying22 info3 rfl zq13 zq3 u9 x9_3 (wrap64 (a0 + x10_3)) [.int .i64 (wrap64 (a0 + x10_3))] (fun k_ => some k_ ≠ (.slice (some ad304) t293.length co12 : Value).ownBlock) (fun _ => False) rfl rfl ?aP (fun _ hk => hk.elim) ?aF ?aO ?aB ?aS ?aL ?_; (case aP => exact rfl); (case aB => exact (by repeat (first | (with_reducible first | exact HB.out | apply below_alloc | apply pw_below_drewN | apply below_drew1 | refine below_set ?_ GE288.out | refine below_set ?_ GE292.out) | exact HB.out))); (case aF => exact (fun k_ hk => Kd.fresh' (Kd.R_lt zq18) k_ hk)); (case aO => exact zq23); (case aS => exact (below_size (by repeat (first | (with_reducible first | exact HB.out | apply below_alloc | apply pw_below_drewN | apply below_drew1 | refine below_set ?_ GE288.out | refine below_set ?_ GE292.out) | exact HB.out)))); (case aL => have := LMc31.out; omega); intro v307 w35 ho hb hg hat; rw [← Ny306.out] at ho; have n0_ := zA (Kd.S_after (ok := (fun k_ => some k_ ≠ (.slice (some ad304) t293.length co12 : Value).ownBlock ∧ some k_ ≠ (u293003 : Value).ownBlock)) zq35 hg hat); have n1_ := zA (Kd.S_over' zq17 (Kd.R_typed zq23) zq13 hg); have n2_ := zA (Kd.R_after (ok := (fun _ => True)) zq36 hg hat); have n3_ := zA (Kd.S_after (ok := (fun k_ => some k_ ≠ (.slice (some ad303) x6_1.length co32 : Value).ownBlock ∧ some k_ ≠ (.slice (some ad304) t293.length co12 : Value).ownBlock)) zq34 hg hat); have n4_ := zA (blk_grown (g := gb288) (o := .cells #[.int .i64 0, .slice none 0 0, .slice none 0 0, .slice none 0 0] 50 (0, 0)) (by (with_reducible repeat (first | refine blk_drewN ?_ _ | refine blk_drew ?_ | refine blk_alloc ?_ _)); exact BK288.out) hg (Kd.R_ne HO_9.out BK288.out zq13)); have n5_ := zA (blk_grown (g := gb292) (o := .cells #[.int .i64 a0, .slice Ao7 t289.length co7, .slice (some ad304) t293.length co12, u293003] 50 (0, 0)) (by (with_reducible repeat (first | refine blk_drewN ?_ _ | refine blk_drew ?_ | refine blk_alloc ?_ _)); exact BK292.out) hg (Kd.R_ne HO_9.out BK292.out zq13)); have n6_ := zA (Kd.R_after (ok := (fun k_ => some k_ ≠ (.slice (some ad303) x6_1.length co32 : Value).ownBlock ∧ some k_ ≠ (.slice (some ad304) t293.length co12 : Value).ownBlock ∧ some k_ ≠ (u293003 : Value).ownBlock)) zq29 hg hat); have n7_ := zA (hb); have n8_ := zA (ho); clear HO_6; clear HO_293001; clear HO_293002; clear HO_293003; clear BK288; clear BK292; clear HL303_0; clear HB; clear HO_9; have HO_6 := n0_; have HO_293001 := n1_; have HO_293002 := n2_; have HO_293003 := n3_; have BK288 := n4_; have BK292 := n5_; have HL303_0 := n6_; have HB := n7_; have HO308 := n8_; clear n0_ n1_ n2_ n3_ n4_ n5_ n6_ n7_ n8_; clear ho hb hg hat)))
                go_roundg k3
                case measure => have := HK1.out; have := HK2.out; have := HK3.out; omega
                case rel => exact ⟨(y306), (wrap64 (x10_3 + 1)), zq6, H', ⟨by have := HK1.out; have := HK2.out; have := HK3.out; omega⟩, ⟨by (with_reducible repeat (first | apply Kd.S_alloc | apply Kd.S_drewN | apply Kd.S_drew)); exact Kd.S_mono HO_6.out (fun _ hk => ⟨hk.2, ⟨hk.1.1, hk.1.2⟩⟩)⟩, ⟨by (with_reducible repeat (first | apply Kd.R_alloc | apply Kd.R_drewN | apply Kd.R_drew)); exact HO308.out⟩, ⟨zq17⟩, ⟨by (with_reducible repeat (first | apply Kd.R_alloc | apply Kd.R_drewN | apply Kd.R_drew)); exact Kd.R_mono HO_293002.out (fun _ hk => hk.2)⟩, ⟨by (with_reducible repeat (first | apply Kd.S_alloc | apply Kd.S_drewN | apply Kd.S_drew)); exact Kd.S_mono HO_293003.out (fun _ hk => ⟨hk.1.1, ⟨hk.2, hk.1.2⟩⟩)⟩, ⟨by (with_reducible repeat (first | refine blk_drewN ?_ _ | refine blk_drew ?_ | refine blk_alloc ?_ _)); exact BK288.out⟩, ⟨by (with_reducible repeat (first | refine blk_drewN ?_ _ | refine blk_drew ?_ | refine blk_alloc ?_ _)); exact BK292.out⟩, ⟨by repeat (first | (with_reducible first | exact HB.out | apply below_alloc | apply pw_below_drewN | apply below_drew1 | refine below_set ?_ GE288.out | refine below_set ?_ GE292.out) | exact HB.out)⟩⟩
               ·rw [if_neg c31] at H
                exact absurd H zq14
              ·replace c30 := Bool.eq_false_iff.mpr c30
               subst c30
               have H1 : (spec_l4build.l2 k3 a0 l1 x6_1 x8_2 x9_3 (wrap64 (x10_3 + 1)) a0 t289 t293 x293003_2) = some (r1, r2, r3, r4) := by rw [if_neg (show ¬ (false = true) by decide)] at H; exact H
               clear H
               have H := H1
               clear H1
               have H' := zA H
               clear H
               obtain ⟨Ao36, co36, eo36⟩ := Kd.S_slice HO_6.out
               subst eo36
               have p303 : 0 ≤ (x10_3 : Int) := of_decide_eq_true zq4
               have q303 : x10_3 < (x6_1.length : Int) := of_decide_eq_true zq4
               obtain ⟨ad303, A303_0, c303_0, e303, hx303_0, hl303_0, hi303_0⟩ := at_L3 (Kd.S_reads' HO_6.out).2.2 x10_3 p303 q303
               cases e303
               obtain ⟨ce303, hce303, hMe303, hcc303⟩ := Kd.S_get HO_6.out [] x10_3 p303 (by first | exact q303 | exact of_decide_eq_true zq4 | (have e_ := (Kd.S_reads' HO_6.out).1; omega))
               obtain ⟨ve303_0, rfl, ge303_0⟩ := hMe303
               have hv303_0 := hcc303 0 _ rfl
               rw [Nat.add_zero, show ((Kd.slice 3 (Kd.int .i64))).sz = 1 from rfl, Nat.mul_one] at hv303_0
               replace hv303_0 := Option.some.inj (hv303_0.symm.trans hx303_0)
               rw [hv303_0] at ge303_0
               have HL303_0 := zA (show Kd.R (Kd.int .i64) 3 _ _ _ _ (rd_L3 x6_1 x10_3) from ge303_0)
               clear hv303_0 ge303_0
               clear hcc303 hce303
               have HR303_0 := zA hi303_0
               have HC303_0 := zA hl303_0
               clear hi303_0 hl303_0
               replace p303 := eq_true p303
               replace q303 := eq_true q303
               have hnb37 := NB292_288.out
               have hnc37 := NB288_292.out
               have hcz38_0 : wr.cell? ⟨gb292, 0, none⟩ = some (.int .i64 a0) := (blk_cell BK292.out 0).trans rfl
               have hcz38_1 : wr.cell? ⟨gb292, 1, none⟩ = some (.slice Ao7 t289.length co7) := (blk_cell BK292.out 1).trans rfl
               have hcz38_2 : wr.cell? ⟨gb292, 2, none⟩ = some (.slice Ao12 t293.length co12) := (blk_cell BK292.out 2).trans rfl
               have hcz38_3 : wr.cell? ⟨gb292, 3, none⟩ = some (u293003) := (blk_cell BK292.out 3).trans rfl
               have hfz38_0 := blk_frozen BK292.out 0
               have hfz38_1 := blk_frozen BK292.out 1
               have hfz38_2 := blk_frozen BK292.out 2
               have hfz38_3 := blk_frozen BK292.out 3
               have p304 : 0 ≤ (x8_2 : Int) := of_decide_eq_true zq4
               have q304 : x8_2 < (t293.length : Int) := of_decide_eq_true zq4
               obtain ⟨ad304, e304, hx304_0⟩ := Kd.at_int (Kd.R_reads' HO_293002.out).2.2 x8_2 p304 q304
               cases e304
               replace p304 := eq_true p304
               replace q304 := eq_true q304
               go_wp2_with (first | (go_at_call 136; (with_reducible refine (spec_l2inList.calls k3 _ _ (rd_L3 x6_1 x10_3) (rd t293 x8_2) false _ ?side1 ?side2 A29.out).mono ?_); (case side1 => repeat (first | exact (by repeat (first | (with_reducible exact HR303_0.out) | (with_reducible refine Kd.C_alloc ?_ _) | (with_reducible refine Kd.C_drewN ?_ _) | (with_reducible refine Kd.C_drew ?_) | exact HR303_0.out)) | (with_reducible refine Kd.C_alloc ?_ _) | (with_reducible refine Kd.C_drewN ?_ _) | (with_reducible refine Kd.C_drew ?_))); (case side2 => exact HC303_0.out); rintro e w' ⟨rfl, ⟨nd, rfl⟩⟩; (try first | exact ⟨rfl, _, World.drewN_drewN _ _ _⟩ | exact ⟨rfl, _, Eq.trans (World.drewN_drewN _ _ _) (congrArg (World.drewN _) (Nat.add_assoc _ _ _))⟩)))
               repeat (go_quiet (first | (go_at_call 136; (with_reducible refine (spec_l2inList.calls k3 _ _ (rd_L3 x6_1 x10_3) (rd t293 x8_2) false _ ?side1 ?side2 A29.out).mono ?_); (case side1 => repeat (first | exact (by repeat (first | (with_reducible exact HR303_0.out) | (with_reducible refine Kd.C_alloc ?_ _) | (with_reducible refine Kd.C_drewN ?_ _) | (with_reducible refine Kd.C_drew ?_) | exact HR303_0.out)) | (with_reducible refine Kd.C_alloc ?_ _) | (with_reducible refine Kd.C_drewN ?_ _) | (with_reducible refine Kd.C_drew ?_))); (case side2 => exact HC303_0.out); rintro e w' ⟨rfl, ⟨nd, rfl⟩⟩; (try first | exact ⟨rfl, _, World.drewN_drewN _ _ _⟩ | exact ⟨rfl, _, Eq.trans (World.drewN_drewN _ _ _) (congrArg (World.drewN _) (Nat.add_assoc _ _ _))⟩))); try go_wp2_with (first | (go_at_call 136; (with_reducible refine (spec_l2inList.calls k3 _ _ (rd_L3 x6_1 x10_3) (rd t293 x8_2) false _ ?side1 ?side2 A29.out).mono ?_); (case side1 => repeat (first | exact (by repeat (first | (with_reducible exact HR303_0.out) | (with_reducible refine Kd.C_alloc ?_ _) | (with_reducible refine Kd.C_drewN ?_ _) | (with_reducible refine Kd.C_drew ?_) | exact HR303_0.out)) | (with_reducible refine Kd.C_alloc ?_ _) | (with_reducible refine Kd.C_drewN ?_ _) | (with_reducible refine Kd.C_drew ?_))); (case side2 => exact HC303_0.out); rintro e w' ⟨rfl, ⟨nd, rfl⟩⟩; (try first | exact ⟨rfl, _, World.drewN_drewN _ _ _⟩ | exact ⟨rfl, _, Eq.trans (World.drewN_drewN _ _ _) (congrArg (World.drewN _) (Nat.add_assoc _ _ _))⟩))))
               go_roundg k3
               case measure => have := HK1.out; have := HK2.out; have := HK3.out; omega
               case rel => exact ⟨(x9_3), (wrap64 (x10_3 + 1)), zq6, H', ⟨by have := HK1.out; have := HK2.out; have := HK3.out; omega⟩, ⟨zq22⟩, ⟨zq23⟩, ⟨zq17⟩, ⟨zq18⟩, ⟨zq46⟩, ⟨by (with_reducible repeat (first | refine blk_drewN ?_ _ | refine blk_drew ?_ | refine blk_alloc ?_ _)); exact BK288.out⟩, ⟨by (with_reducible repeat (first | refine blk_drewN ?_ _ | refine blk_drew ?_ | refine blk_alloc ?_ _)); exact BK292.out⟩, ⟨by repeat (first | (with_reducible first | exact HB.out | apply below_alloc | apply pw_below_drewN | apply below_drew1 | refine below_set ?_ GE288.out | refine below_set ?_ GE292.out) | exact HB.out)⟩⟩
             ·rw [if_neg c28] at H
              exact absurd H zq14
            ·rw [if_neg c27] at H
             exact absurd H zq14
           ·rw [if_neg c26] at H
            exact absurd H zq14
          ·rw [if_neg c25] at H
           exact absurd H zq14
         ·rw [if_neg c24] at H
          have c24b0 : decide (x10_3 < (l1.length : Int)) = false := decide_eq_false c24
          clear c24
          by_cases c39 : x293003_2.length < 5864062014805
          ·rw [if_pos c39] at H
           have LMc39 := zA c39
           clear c39
           obtain ⟨y309, hy309⟩ : ∃ y_ : List (List Int), y_ = (x293003_2 ++ [x9_3]) := ⟨_, rfl⟩
           replace H : (spec_l4build.l1 k3 a0 l1 x6_1 (wrap64 (x8_2 + 1)) a0 t289 t293 y309) = some (r1, r2, r3, r4) := by first | (rw [hy309]; with_reducible exact H) | (have H2_ := (Option.bind_some _ _).symm.trans H; rw [hy309]; with_reducible exact H2_) | (have H2_ := (Option.bind_some _ _).symm.trans H; with_reducible exact H2_) | with_reducible exact H | (rw [hy309]; exact H) | exact H
           have Ny309 := zA hy309
           clear hy309
           have H' := zA H
           clear H
           have hnb40 := NB292_288.out
           have hnc40 := NB288_292.out
           have hcz41_0 : wr.cell? ⟨gb292, 0, none⟩ = some (.int .i64 a0) := (blk_cell BK292.out 0).trans rfl
           have hcz41_1 : wr.cell? ⟨gb292, 1, none⟩ = some (.slice Ao7 t289.length co7) := (blk_cell BK292.out 1).trans rfl
           have hcz41_2 : wr.cell? ⟨gb292, 2, none⟩ = some (.slice Ao12 t293.length co12) := (blk_cell BK292.out 2).trans rfl
           have hcz41_3 : wr.cell? ⟨gb292, 3, none⟩ = some (u293003) := (blk_cell BK292.out 3).trans rfl
           have hfz41_0 := blk_frozen BK292.out 0
           have hfz41_1 := blk_frozen BK292.out 1
           have hfz41_2 := blk_frozen BK292.out 2
           have hfz41_3 := blk_frozen BK292.out 3
           obtain ⟨Ao43, co43, eo43⟩ := Kd.R_slice HO_9.out
           subst eo43
           go_wp2_with (first | ((with_reducible refine gate_builtin (b := .append) (xs := #[.tmp 62, .tmp 64]) rfl ?_); at_builtin; refine Kd.S_append (Kd.slice 3 (Kd.int .i64)) (w0 := w) w.heap.size rfl (.tmp 62) (.tmp 64) 42 22 (.slice none 0 0) 24 rfl Try.underlying42 info22 rfl zq13 zq3 u293003 x293003_2 x9_3 [.slice Ao43 x9_3.length co43] (fun k_ => some k_ ≠ (u6 : Value).ownBlock ∧ some k_ ≠ (.slice Ao12 t293.length co12 : Value).ownBlock) (fun k_ => some k_ = (.slice Ao43 x9_3.length co43 : Value).ownBlock) rfl rfl ?aP (fun k_ hk_ => ((Kd.R_mono (ok' := fun k_ => ((fun k_ => some k_ ≠ (u6 : Value).ownBlock ∧ some k_ ≠ (.slice Ao12 t293.length co12 : Value).ownBlock)) k_ ∧ some k_ ≠ (u293003 : Value).ownBlock) (Kd.R_apart' (Kd.R_apart' (HO_9.out) (Kd.S_typed HO_6.out) zq13) (Kd.S_typed HO_293003.out) zq13) (fun k_ hk => ⟨⟨hk.1.2, hk.1.1⟩, hk.2⟩))).1 k_ hk_.symm) ?aF ?aO ?aB ?aS ?aL ?_; (case aP => exact Kd.M_row (Kd.R_mono (Kd.R_tight rfl (Kd.R_mono (ok' := fun k_ => ((fun k_ => some k_ ≠ (u6 : Value).ownBlock ∧ some k_ ≠ (.slice Ao12 t293.length co12 : Value).ownBlock)) k_ ∧ some k_ ≠ (u293003 : Value).ownBlock) (Kd.R_apart' (Kd.R_apart' (HO_9.out) (Kd.S_typed HO_6.out) zq13) (Kd.S_typed HO_293003.out) zq13) (fun k_ hk => ⟨⟨hk.1.2, hk.1.1⟩, hk.2⟩))) (fun _ h_ => h_))); (case aB => exact (by repeat (first | (with_reducible first | exact HB.out | apply below_alloc | apply pw_below_drewN | apply below_drew1 | refine below_set ?_ GE288.out | refine below_set ?_ GE292.out) | exact HB.out))); (case aF => exact (fun k_ hk => ⟨Kd.fresh' (Kd.S_lt zq22) k_ hk, Kd.fresh' (Kd.R_lt zq18) k_ hk⟩)); (case aO => exact (by (with_reducible repeat (first | apply Kd.S_alloc | apply Kd.S_drewN | apply Kd.S_drew)); exact Kd.S_mono HO_293003.out (fun k_ hk => ⟨⟨hk.1, hk.2.2⟩, fun e_ => hk.2.1 e_⟩))); (case aS => exact (below_size (by repeat (first | (with_reducible first | exact HB.out | apply below_alloc | apply pw_below_drewN | apply below_drew1 | refine below_set ?_ GE288.out | refine below_set ?_ GE292.out) | exact HB.out)))); (case aL => have := LMc39.out; omega); intro v310 w42 ho hb hg hat; rw [← Ny309.out] at ho; have n0_ := zA (Kd.S_after (ok := (fun k_ => some k_ ≠ (.slice Ao43 x9_3.length co43 : Value).ownBlock ∧ some k_ ≠ (.slice Ao12 t293.length co12 : Value).ownBlock)) (by (with_reducible repeat (first | apply Kd.S_alloc | apply Kd.S_drewN | apply Kd.S_drew)); exact Kd.S_mono HO_6.out (fun _ hk => ⟨⟨hk.1, hk.2.1⟩, hk.2.2⟩)) hg hat); have n1_ := zA (Kd.S_over' zq17 (Kd.S_typed zq46) zq13 hg); have n2_ := zA (Kd.R_over' zq18 (Kd.S_typed zq46) zq13 hg); have n3_ := zA (blk_grown (g := gb288) (o := .cells #[.int .i64 0, .slice none 0 0, .slice none 0 0, .slice none 0 0] 50 (0, 0)) (by (with_reducible repeat (first | refine blk_drewN ?_ _ | refine blk_drew ?_ | refine blk_alloc ?_ _)); exact BK288.out) hg (Kd.S_ne HO_293003.out BK288.out zq13)); have n4_ := zA (blk_grown (g := gb292) (o := .cells #[.int .i64 a0, .slice Ao7 t289.length co7, .slice Ao12 t293.length co12, u293003] 50 (0, 0)) (by (with_reducible repeat (first | refine blk_drewN ?_ _ | refine blk_drew ?_ | refine blk_alloc ?_ _)); exact BK292.out) hg (Kd.S_ne HO_293003.out BK292.out zq13)); have n5_ := zA (hb); have n6_ := zA (ho); clear HO_6; clear HO_293001; clear HO_293002; clear BK288; clear BK292; clear HB; clear HO_293003; clear HO_9; have HO_6 := n0_; have HO_293001 := n1_; have HO_293002 := n2_; have BK288 := n3_; have BK292 := n4_; have HB := n5_; have HO311 := n6_; clear n0_ n1_ n2_ n3_ n4_ n5_ n6_; clear ho hb hg hat; obtain ⟨Ao44, co44, eo44⟩ := Kd.S_slice HO311.out; subst eo44; have hcz45_0 : w42.cell? ⟨gb292, 0, none⟩ = some (.int .i64 a0) := (blk_cell BK292.out 0).trans rfl; have hcz45_1 : w42.cell? ⟨gb292, 1, none⟩ = some (.slice Ao7 t289.length co7) := (blk_cell BK292.out 1).trans rfl; have hcz45_2 : w42.cell? ⟨gb292, 2, none⟩ = some (.slice Ao12 t293.length co12) := (blk_cell BK292.out 2).trans rfl; have hcz45_3 : w42.cell? ⟨gb292, 3, none⟩ = some (u293003) := (blk_cell BK292.out 3).trans rfl; have hfz45_0 := blk_frozen BK292.out 0; have hfz45_1 := blk_frozen BK292.out 1; have hfz45_2 := blk_frozen BK292.out 2; have hfz45_3 := blk_frozen BK292.out 3))
           go_roundg k3
           case measure => have := HK1.out; have := HK2.out; have := HK3.out; omega
           case rel => exact ⟨(wrap64 (x8_2 + 1)), (y309), (.slice Ao44 y309.length co44), zq6, H', ⟨by have := HK1.out; have := HK2.out; have := HK3.out; omega⟩, ⟨by (with_reducible repeat (first | apply Kd.S_alloc | apply Kd.S_drewN | apply Kd.S_drew)); exact Kd.S_mono (Kd.S_far (p := ⟨gb292, 3, none⟩) (Kd.S_types HO_6.out BK292.out zq13) (fun _ hk => hk.2) (.slice Ao44 y309.length co44)) (fun _ hk => ⟨hk.1.1.2, hk.1.2⟩)⟩, ⟨by (with_reducible repeat (first | apply Kd.S_alloc | apply Kd.S_drewN | apply Kd.S_drew)); exact Kd.S_mono (Kd.S_far (p := ⟨gb292, 3, none⟩) (Kd.S_types HO_293001.out BK292.out zq13) (fun _ hk => hk.2) (.slice Ao44 y309.length co44)) (fun _ hk => trivial)⟩, ⟨by (with_reducible repeat (first | apply Kd.R_alloc | apply Kd.R_drewN | apply Kd.R_drew)); exact Kd.R_mono (Kd.R_far (p := ⟨gb292, 3, none⟩) (Kd.R_types HO_293002.out BK292.out zq13) (fun _ hk => hk.2) (.slice Ao44 y309.length co44)) (fun _ hk => trivial)⟩, ⟨by (with_reducible repeat (first | apply Kd.S_alloc | apply Kd.S_drewN | apply Kd.S_drew)); exact Kd.S_mono (Kd.S_far (p := ⟨gb292, 3, none⟩) (Kd.S_types HO311.out BK292.out zq13) (fun _ hk => hk.2) (.slice Ao44 y309.length co44)) (fun _ hk => ⟨hk.1.1, hk.1.2⟩)⟩, ⟨by (with_reducible repeat (first | refine blk_drewN ?_ _ | refine blk_drew ?_ | refine blk_alloc ?_ _)); refine blk_far ?_ NB288_292.out _; (with_reducible repeat (first | refine blk_drewN ?_ _ | refine blk_drew ?_ | refine blk_alloc ?_ _)); exact BK288.out⟩, ⟨by (with_reducible repeat (first | refine blk_drewN ?_ _ | refine blk_drew ?_ | refine blk_alloc ?_ _)); refine blk_put (cs := #[.int .i64 a0, .slice Ao7 t289.length co7, .slice Ao12 t293.length co12, u293003]) ?_ 3 _ rfl; (with_reducible repeat (first | refine blk_drewN ?_ _ | refine blk_drew ?_ | refine blk_alloc ?_ _)); exact BK292.out⟩, ⟨by repeat (first | (with_reducible first | exact HB.out | apply below_alloc | apply pw_below_drewN | apply below_drew1 | refine below_set ?_ GE288.out | refine below_set ?_ GE292.out) | exact HB.out)⟩⟩
          ·rw [if_neg c39] at H
           exact absurd H zq14
      ·rw [if_neg c21] at H
       have c21b0 : decide (x8_2 < (t293.length : Int)) = false := decide_eq_false c21
       clear c21
       simp only [Option.some.injEq, Prod.mk.injEq] at H
       obtain ⟨rfl, rfl, rfl, rfl⟩ := H
       have hnb46 := NB292_288.out
       have hnc46 := NB288_292.out
       have hcz47_0 : wr.cell? ⟨gb292, 0, none⟩ = some (.int .i64 a0) := (blk_cell BK292.out 0).trans rfl
       have hcz47_1 : wr.cell? ⟨gb292, 1, none⟩ = some (.slice Ao7 t289.length co7) := (blk_cell BK292.out 1).trans rfl
       have hcz47_2 : wr.cell? ⟨gb292, 2, none⟩ = some (.slice Ao12 t293.length co12) := (blk_cell BK292.out 2).trans rfl
       have hcz47_3 : wr.cell? ⟨gb292, 3, none⟩ = some (u293003) := (blk_cell BK292.out 3).trans rfl
       have hfz47_0 := blk_frozen BK292.out 0
       have hfz47_1 := blk_frozen BK292.out 1
       have hfz47_2 := blk_frozen BK292.out 2
       have hfz47_3 := blk_frozen BK292.out 3
       have hcz48_0 : wr.cell? ⟨gb288, 0, none⟩ = some (.int .i64 0) := (blk_cell BK288.out 0).trans rfl
       have hcz48_1 : wr.cell? ⟨gb288, 1, none⟩ = some (.slice none 0 0) := (blk_cell BK288.out 1).trans rfl
       have hcz48_2 : wr.cell? ⟨gb288, 2, none⟩ = some (.slice none 0 0) := (blk_cell BK288.out 2).trans rfl
       have hcz48_3 : wr.cell? ⟨gb288, 3, none⟩ = some (.slice none 0 0) := (blk_cell BK288.out 3).trans rfl
       have hfz48_0 := blk_frozen BK288.out 0
       have hfz48_1 := blk_frozen BK288.out 1
       have hfz48_2 := blk_frozen BK288.out 2
       have hfz48_3 := blk_frozen BK288.out 3
       obtain ⟨Ao49, co49, eo49⟩ := Kd.S_slice HO_293003.out
       subst eo49
       go_wp2
       refine bodyPost_ret (results_cell_row rfl _ _ gb288 50 #[.int .i64 a0, .slice Ao7 t289.length co7, .slice Ao12 t293.length co12, .slice Ao49 x293003_2.length co49] (0, 0) _ rfl (by (with_reducible repeat (first | refine blk_drewN ?_ _ | refine blk_drew ?_ | refine blk_alloc ?_ _)); refine blk_put (cs := #[.int .i64 a0, .slice Ao7 t289.length co7, .slice Ao12 t293.length co12, .slice none 0 0]) ?_ 3 _ rfl; (with_reducible repeat (first | refine blk_drewN ?_ _ | refine blk_drew ?_ | refine blk_alloc ?_ _)); refine blk_put (cs := #[.int .i64 a0, .slice Ao7 t289.length co7, .slice none 0 0, .slice none 0 0]) ?_ 2 _ rfl; (with_reducible repeat (first | refine blk_drewN ?_ _ | refine blk_drew ?_ | refine blk_alloc ?_ _)); refine blk_put (cs := #[.int .i64 a0, .slice none 0 0, .slice none 0 0, .slice none 0 0]) ?_ 1 _ rfl; (with_reducible repeat (first | refine blk_drewN ?_ _ | refine blk_drew ?_ | refine blk_alloc ?_ _)); refine blk_put (cs := #[.int .i64 0, .slice none 0 0, .slice none 0 0, .slice none 0 0]) ?_ 0 _ rfl; (with_reducible repeat (first | refine blk_drewN ?_ _ | refine blk_drew ?_ | refine blk_alloc ?_ _)); exact BK288.out) Try.underlying50 rfl zq12) rfl ?_
       exact ⟨_, _, _, zq9, by (with_reducible repeat (first | apply Kd.S_alloc | apply Kd.S_drewN | apply Kd.S_drew)); exact Kd.S_mono (Kd.S_far (p := ⟨gb288, 3, none⟩) (Kd.S_far (p := ⟨gb288, 2, none⟩) (Kd.S_far (p := ⟨gb288, 1, none⟩) (Kd.S_far (p := ⟨gb288, 0, none⟩) (Kd.S_types HO_293001.out BK288.out zq13) (fun _ hk => hk.2) (.int .i64 a0)) (fun _ hk => hk.2) (.slice Ao7 t289.length co7)) (fun _ hk => hk.2) (.slice Ao12 t293.length co12)) (fun _ hk => hk.2) (.slice Ao49 x293003_2.length co49)) (fun _ hk => trivial), by (with_reducible repeat (first | apply Kd.R_alloc | apply Kd.R_drewN | apply Kd.R_drew)); exact Kd.R_mono (Kd.R_far (p := ⟨gb288, 3, none⟩) (Kd.R_far (p := ⟨gb288, 2, none⟩) (Kd.R_far (p := ⟨gb288, 1, none⟩) (Kd.R_far (p := ⟨gb288, 0, none⟩) (Kd.R_types HO_293002.out BK288.out zq13) (fun _ hk => hk.2) (.int .i64 a0)) (fun _ hk => hk.2) (.slice Ao7 t289.length co7)) (fun _ hk => hk.2) (.slice Ao12 t293.length co12)) (fun _ hk => hk.2) (.slice Ao49 x293003_2.length co49)) (fun _ hk => trivial), by (with_reducible repeat (first | apply Kd.S_alloc | apply Kd.S_drewN | apply Kd.S_drew)); exact Kd.S_mono (Kd.S_far (p := ⟨gb288, 3, none⟩) (Kd.S_far (p := ⟨gb288, 2, none⟩) (Kd.S_far (p := ⟨gb288, 1, none⟩) (Kd.S_far (p := ⟨gb288, 0, none⟩) (Kd.S_types HO_293003.out BK288.out zq13) (fun _ hk => hk.2) (.int .i64 a0)) (fun _ hk => hk.2) (.slice Ao7 t289.length co7)) (fun _ hk => hk.2) (.slice Ao12 t293.length co12)) (fun _ hk => hk.2) (.slice Ao49 x293003_2.length co49)) (fun _ hk => hk.1.2), by repeat (first | (with_reducible first | exact HB.out | apply below_alloc | apply pw_below_drewN | apply below_drew1 | refine below_set ?_ GE288.out | refine below_set ?_ GE292.out) | exact HB.out)⟩
end Go.Proofs.Ytmgmdnmfalepkaa.L
