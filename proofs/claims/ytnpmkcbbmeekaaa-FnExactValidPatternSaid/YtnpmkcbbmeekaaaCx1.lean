/- Pure functions for the Go functions of the program's laws and specification, and that each Go function's call returns what its pure function says; no condition but those that each theorem states. -/
import Derived.Test.YtnpmkcbbmeekaaaCx0
namespace Go.Proofs.Ytnpmkcbbmeekaaa.C
open Go.RowKit Go.Proofs.YtnpmkcbbmeekaaaW.PrintWords Go.Proofs.YtnpmkcbbmeekaaaW.PrintLast Go.Proofs.YtnpmkcbbmeekaaaW.PrintMore
attribute [local go_sem] max2_int min2_int max_two min_two max_three min_three max_four min_four   -- for this text's walks alone
set_option linter.unusedVariables false
set_option linter.unusedSimpArgs false

/-! ### impl_canonical: function 68 -/
mutual
def impl_canonical.j0 : Nat → List Int → Bool → Option (Bool)
  | 0, _, _ => none
  | k + 1, x0, x13 => if x13 = true then (some false) else (impl_canonical.l0 k x0 x0 (x0.length : Int) 0)
def impl_canonical.l0 : Nat → List Int → List Int → Int → Int → Option (Bool)
  | 0, _, _, _, _ => none
  | k + 1, x0, x14, x15, x16 => if x16 < x15 then (if 0 ≤ x16 then (if x16 < (x14.length : Int) then (if (rd x14 x16) < 0 then (some false) else (if (rd x14 x16) > 255 then (some false) else (if (Int.tmod x16 2) = 1 then (if 0 ≤ (wrap64 (x16 - 1)) then (if (wrap64 (x16 - 1)) < (x0.length : Int) then (if (rd x14 x16) < (rd x0 (wrap64 (x16 - 1))) then (some false) else (if (Int.tmod x16 2) = 0 then (if x16 > 0 then (if (rd x14 x16) < (wrap64 ((rd x0 (wrap64 (x16 - 1))) + 2)) then (some false) else (impl_canonical.l0 k x0 x14 x15 (wrap64 (x16 + 1)))) else (impl_canonical.l0 k x0 x14 x15 (wrap64 (x16 + 1)))) else (impl_canonical.l0 k x0 x14 x15 (wrap64 (x16 + 1))))) else (none)) else (none)) else (if (Int.tmod x16 2) = 0 then (if x16 > 0 then (if 0 ≤ (wrap64 (x16 - 1)) then (if (wrap64 (x16 - 1)) < (x0.length : Int) then (if (rd x14 x16) < (wrap64 ((rd x0 (wrap64 (x16 - 1))) + 2)) then (some false) else (impl_canonical.l0 k x0 x14 x15 (wrap64 (x16 + 1)))) else (none)) else (none)) else (impl_canonical.l0 k x0 x14 x15 (wrap64 (x16 + 1)))) else (impl_canonical.l0 k x0 x14 x15 (wrap64 (x16 + 1))))))) else (none)) else (none)) else (some true)
end
def impl_canonical.f (k : Nat) (l0 : List Int) : Option (Bool) := if ((l0.length : Int) % 2) = 0 then (impl_canonical.j0 k l0 (decide ((l0.length : Int) > 256))) else (impl_canonical.j0 k l0 true)
theorem impl_canonical.mono_l : ∀ k, (∀ y0 y1, LeO (impl_canonical.j0 k y0 y1) (impl_canonical.j0 (k + 1) y0 y1)) ∧ (∀ y0 y1 y2 y3, LeO (impl_canonical.l0 k y0 y1 y2 y3) (impl_canonical.l0 (k + 1) y0 y1 y2 y3))
  | 0 => ⟨fun _ _ r h => by simp [impl_canonical.j0] at h, fun _ _ _ _ r h => by simp [impl_canonical.l0] at h⟩
  | k + 1 => by
    obtain ⟨ih0, ih1⟩ := impl_canonical.mono_l k
    refine ⟨?_, ?_⟩
    · intro y0 y1
      unfold impl_canonical.j0
      repeat' first
      | (with_reducible exact ih0 _ _)
      | (with_reducible exact ih1 _ _ _ _)
      | (with_reducible exact LeO.refl _)
      | (with_reducible exact LeO.none _)
      | (with_reducible refine LeO.ite ?_ ?_)
      | (with_reducible refine LeO.bind ?_ (fun _ => ?_))
      | exact ih0 _ _
      | exact ih1 _ _ _ _
      | exact LeO.none _
      | refine LeO.ite ?_ ?_
      | refine LeO.bind ?_ (fun _ => ?_)
    · intro y0 y1 y2 y3
      unfold impl_canonical.l0
      repeat' first
      | (with_reducible exact ih0 _ _)
      | (with_reducible exact ih1 _ _ _ _)
      | (with_reducible exact LeO.refl _)
      | (with_reducible exact LeO.none _)
      | (with_reducible refine LeO.ite ?_ ?_)
      | (with_reducible refine LeO.bind ?_ (fun _ => ?_))
      | exact ih0 _ _
      | exact ih1 _ _ _ _
      | exact LeO.none _
      | refine LeO.ite ?_ ?_
      | refine LeO.bind ?_ (fun _ => ?_)
theorem impl_canonical.mono : ∀ a0 k, LeO (impl_canonical.f k a0) (impl_canonical.f (k + 1) a0) := by
  intro a0 k
  obtain ⟨ih0, ih1⟩ := impl_canonical.mono_l k
  unfold impl_canonical.f
  repeat' first
      | (with_reducible exact ih0 _ _)
      | (with_reducible exact ih1 _ _ _ _)
      | (with_reducible exact LeO.refl _)
      | (with_reducible exact LeO.none _)
      | (with_reducible refine LeO.ite ?_ ?_)
      | (with_reducible refine LeO.bind ?_ (fun _ => ?_))
      | exact ih0 _ _
      | exact ih1 _ _ _ _
      | exact LeO.none _
      | refine LeO.ite ?_ ?_
      | refine LeO.bind ?_ (fun _ => ?_)
set_option maxHeartbeats 8000000 in
set_option maxRecDepth 100000 in
theorem impl_canonical.calls (k : Nat) (A0 : Option Addr) (c0 : Nat) (l0 : List Int) (r : Bool) (w : World) (hr0 : Kd.C (Kd.int .i64) w A0 l0.length l0) (hc0 : l0.length ≤ c0) (h : impl_canonical.f k l0 = some r) :
    Calls Try.prog 68 #[.slice A0 l0.length c0] w fun e w' => e = .returned (.bool r) ∧ Drawn0 w w' := by
  have HR0 := Aside0.mk hr0
  have HC0 := Aside0.mk hc0
  clear hr0 hc0
  have H : (if ((l0.length : Int) % 2) = 0 then (impl_canonical.j0 k l0 (decide ((l0.length : Int) > 256))) else (impl_canonical.j0 k l0 true)) = some r := h
  clear h
  have HC2 := Aside0.mk H
  clear H
  go_enter Try.func68, Try.ntmps68
  go_upto_region 1 with (fail)
  go_cut [13] (fun v13 wc => ∃ (kq : Nat) (x13_1 : Bool), v13 = .bool x13_1 ∧ Aside0 (impl_canonical.j0 kq l0 x13_1 = some r) ∧ Aside0 (kq ≤ k) ∧ Drawn0 w wc)
  case first =>
    have H := HC2.out
    clear HC2
    by_cases c3 : ((l0.length : Int) % 2) = 0
    · rw [if_pos c3] at H
      have c3b0 : (((l0.length : Int) % 2) == 0) = true := beq_iff_eq.mpr c3
      have c3b1 : (((l0.length : Int) % 2) != 0) = false := bne_eq_false_iff_eq.mpr c3
      clear c3
      (first | rw [c3b0] | (simp only [i64_w, i32_w]; rw [c3b0]) | skip)
      have H' := Aside0.mk H
      clear H
      go_wp2
      go_meet
      case rel => exact ⟨_, (decide ((l0.length : Int) > 256)), (by first | rfl | (simp; done) | (simp [*]; done)), H', ⟨by first | omega | exact Nat.le_refl _⟩, by repeat (first | exact Drawn0.refl _ | apply Drawn0.step)⟩
    · rw [if_neg c3] at H
      have c3b0 : (((l0.length : Int) % 2) == 0) = false := beq_eq_false_iff_ne.mpr c3
      have c3b1 : (((l0.length : Int) % 2) != 0) = true := bne_iff_ne.mpr c3
      (first | rw [c3b0] | (simp only [i64_w, i32_w]; rw [c3b0]) | skip)
      have H' := Aside0.mk H
      clear H
      go_wp2
      go_meet
      case rel => exact ⟨_, (true), (by first | rfl | (simp; done) | (simp [*]; done)), H', ⟨by first | omega | exact Nat.le_refl _⟩, by repeat (first | exact Drawn0.refl _ | apply Drawn0.step)⟩
  case rest =>
    clear HC2
    try clear p2
    try clear c3
    try clear c3b0
    try clear c3b1
    obtain ⟨kq, x13_1, rfl, HA, HJ1, ⟨mc1, rfl⟩⟩ := hcut
    cases kq with
    | zero => exact absurd HA.out (by simp [impl_canonical.j0])
    | succ kj1 =>
      have H := HA.out
      clear HA
      simp only [impl_canonical.j0] at H
      by_cases c4 : x13_1 = true
      · subst c4
        have H1 : (some false) = some r := by rw [if_pos rfl] at H; exact H
        clear H
        have H := H1
        clear H1
        obtain rfl := Option.some.inj H
        go_wp2
        go_ret
        exact ⟨by first | rfl | (simp; done) | (simp [*]; done), by repeat (first | exact Drawn0.refl _ | apply Drawn0.step)⟩
      · replace c4 := Bool.eq_false_iff.mpr c4
        subst c4
        have H1 : (impl_canonical.l0 kj1 l0 l0 (l0.length : Int) 0) = some r := by rw [if_neg (show ¬ (false = true) by decide)] at H; exact H
        clear H
        have H := H1
        clear H1
        have H' := Aside0.mk H
        clear H
        go_wp2
        go_loopg [16] kj1 (fun kq v16 w' => ∃ (x16_2 : Int), v16 = .int .i64 x16_2 ∧ Aside0 (impl_canonical.l0 kq l0 l0 (l0.length : Int) x16_2 = some r) ∧ Aside0 (kq ≤ kj1) ∧ Drawn0 w w')
        case atStart => exact ⟨(0), (by first | rfl | (simp; done) | (simp [*]; done)), H', ⟨Nat.le_refl _⟩, by repeat (first | exact Drawn0.refl _ | apply Drawn0.step)⟩
        case round =>
          clear H'
          try clear c1
          try clear p2
          try clear c3
          try clear c3b0
          try clear c3b1
          try clear c4
          try clear p2
          obtain ⟨x16_2, rfl, HA, HK2, ⟨m2, rfl⟩⟩ := hrel
          cases gk with
          | zero => exact absurd HA.out (by simp [impl_canonical.l0])
          | succ k2 =>
            have H := HA.out
            clear HA
            simp only [impl_canonical.l0] at H
            by_cases c5 : x16_2 < (l0.length : Int)
            · rw [if_pos c5] at H
              have c5b0 : decide (x16_2 < (l0.length : Int)) = true := decide_eq_true c5
              clear c5
              by_cases c6 : 0 ≤ x16_2
              · rw [if_pos c6] at H
                have c6b0 : decide (0 ≤ x16_2) = true := decide_eq_true c6
                clear c6
                by_cases c7 : x16_2 < (l0.length : Int)
                · rw [if_pos c7] at H
                  have c7b0 : decide (x16_2 < (l0.length : Int)) = true := decide_eq_true c7
                  clear c7
                  by_cases c8 : (rd l0 x16_2) < 0
                  · rw [if_pos c8] at H
                    have c8b0 : decide ((rd l0 x16_2) < 0) = true := decide_eq_true c8
                    clear c8
                    obtain rfl := Option.some.inj H
                    have p101 : 0 ≤ (x16_2 : Int) := of_decide_eq_true (by first | (with_reducible assumption) | assumption)
                    have q101 : x16_2 < (l0.length : Int) := of_decide_eq_true (by first | (with_reducible assumption) | assumption)
                    obtain ⟨ad101, e101, hx101_0⟩ := Kd.at_int HR0.out x16_2 p101 q101
                    cases e101
                    replace p101 := eq_true p101
                    replace q101 := eq_true q101
                    go_wp2
                    go_ret
                    exact ⟨by first | rfl | (simp; done) | (simp [*]; done), by repeat (first | exact Drawn0.refl _ | apply Drawn0.step)⟩
                  · rw [if_neg c8] at H
                    have c8b0 : decide ((rd l0 x16_2) < 0) = false := decide_eq_false c8
                    clear c8
                    by_cases c9 : (rd l0 x16_2) > 255
                    · rw [if_pos c9] at H
                      have c9b0 : decide (255 < (rd l0 x16_2)) = true := decide_eq_true c9
                      clear c9
                      obtain rfl := Option.some.inj H
                      have p101 : 0 ≤ (x16_2 : Int) := of_decide_eq_true (by first | (with_reducible assumption) | assumption)
                      have q101 : x16_2 < (l0.length : Int) := of_decide_eq_true (by first | (with_reducible assumption) | assumption)
                      obtain ⟨ad101, e101, hx101_0⟩ := Kd.at_int HR0.out x16_2 p101 q101
                      cases e101
                      replace p101 := eq_true p101
                      replace q101 := eq_true q101
                      go_wp2
                      go_ret
                      exact ⟨by first | rfl | (simp; done) | (simp [*]; done), by repeat (first | exact Drawn0.refl _ | apply Drawn0.step)⟩
                    · rw [if_neg c9] at H
                      have c9b0 : decide (255 < (rd l0 x16_2)) = false := decide_eq_false c9
                      clear c9
                      by_cases c10 : (Int.tmod x16_2 2) = 1
                      · rw [if_pos c10] at H
                        have c10b0 : ((Int.tmod x16_2 2) == 1) = true := beq_iff_eq.mpr c10
                        have c10b1 : ((Int.tmod x16_2 2) != 1) = false := bne_eq_false_iff_eq.mpr c10
                        clear c10
                        obtain ⟨ji11, hji11⟩ : ∃ j_ : Int, (wrap64 (x16_2 - 1)) = j_ := ⟨_, rfl⟩
                        replace H : (if 0 ≤ (ji11) then (if (ji11) < (l0.length : Int) then (if (rd l0 x16_2) < (rd l0 (ji11)) then (some false) else (if (Int.tmod x16_2 2) = 0 then (if x16_2 > 0 then (if (rd l0 x16_2) < (wrap64 ((rd l0 (ji11)) + 2)) then (some false) else (impl_canonical.l0 k2 l0 l0 (l0.length : Int) (wrap64 (x16_2 + 1)))) else (impl_canonical.l0 k2 l0 l0 (l0.length : Int) (wrap64 (x16_2 + 1)))) else (impl_canonical.l0 k2 l0 l0 (l0.length : Int) (wrap64 (x16_2 + 1))))) else (none)) else (none)) = some r := by first | (rw [hji11] at H; exact H) | (simp only [hji11] at H ⊢; exact H)
                        have hji11w : (IntKind.i64.wrap (x16_2 - 1)) = ji11 := (i64_w _).trans hji11
                        by_cases c12 : 0 ≤ (ji11)
                        · rw [if_pos c12] at H
                          have c12b0 : decide (0 ≤ (ji11)) = true := decide_eq_true c12
                          clear c12
                          by_cases c13 : (ji11) < (l0.length : Int)
                          · rw [if_pos c13] at H
                            have c13b0 : decide ((ji11) < (l0.length : Int)) = true := decide_eq_true c13
                            clear c13
                            by_cases c14 : (rd l0 x16_2) < (rd l0 (ji11))
                            · rw [if_pos c14] at H
                              have c14b0 : decide ((rd l0 x16_2) < (rd l0 (ji11))) = true := decide_eq_true c14
                              clear c14
                              obtain rfl := Option.some.inj H
                              have p101 : 0 ≤ (x16_2 : Int) := of_decide_eq_true (by first | (with_reducible assumption) | assumption)
                              have q101 : x16_2 < (l0.length : Int) := of_decide_eq_true (by first | (with_reducible assumption) | assumption)
                              obtain ⟨ad101, e101, hx101_0⟩ := Kd.at_int HR0.out x16_2 p101 q101
                              cases e101
                              replace p101 := eq_true p101
                              replace q101 := eq_true q101
                              have p102 : 0 ≤ ((ji11) : Int) := of_decide_eq_true (by first | (with_reducible assumption) | assumption)
                              have q102 : (ji11) < (l0.length : Int) := of_decide_eq_true (by first | (with_reducible assumption) | assumption)
                              obtain ⟨ad102, e102, hx102_0⟩ := Kd.at_int HR0.out (ji11) p102 q102
                              obtain rfl : ad101 = ad102 := (by injection e102)
                              replace p102 := eq_true p102
                              replace q102 := eq_true q102
                              go_wp2
                              go_ret
                              exact ⟨by first | rfl | (simp; done) | (simp only [← hji11] <;> (first | rfl | simp)) | (simp [*]; done), by repeat (first | exact Drawn0.refl _ | apply Drawn0.step)⟩
                            · rw [if_neg c14] at H
                              have c14b0 : decide ((rd l0 x16_2) < (rd l0 (ji11))) = false := decide_eq_false c14
                              clear c14
                              by_cases c15 : (Int.tmod x16_2 2) = 0
                              · rw [if_pos c15] at H
                                have c15b0 : ((Int.tmod x16_2 2) == 0) = true := beq_iff_eq.mpr c15
                                have c15b1 : ((Int.tmod x16_2 2) != 0) = false := bne_eq_false_iff_eq.mpr c15
                                clear c15
                                by_cases c16 : x16_2 > 0
                                · rw [if_pos c16] at H
                                  have c16b0 : decide (0 < x16_2) = true := decide_eq_true c16
                                  clear c16
                                  by_cases c17 : (rd l0 x16_2) < (wrap64 ((rd l0 (ji11)) + 2))
                                  · rw [if_pos c17] at H
                                    have c17b0 : decide ((rd l0 x16_2) < (wrap64 ((rd l0 (ji11)) + 2))) = true := decide_eq_true c17
                                    clear c17
                                    obtain rfl := Option.some.inj H
                                    have p101 : 0 ≤ (x16_2 : Int) := of_decide_eq_true (by first | (with_reducible assumption) | assumption)
                                    have q101 : x16_2 < (l0.length : Int) := of_decide_eq_true (by first | (with_reducible assumption) | assumption)
                                    obtain ⟨ad101, e101, hx101_0⟩ := Kd.at_int HR0.out x16_2 p101 q101
                                    cases e101
                                    replace p101 := eq_true p101
                                    replace q101 := eq_true q101
                                    have p102 : 0 ≤ ((ji11) : Int) := of_decide_eq_true (by first | (with_reducible assumption) | assumption)
                                    have q102 : (ji11) < (l0.length : Int) := of_decide_eq_true (by first | (with_reducible assumption) | assumption)
                                    obtain ⟨ad102, e102, hx102_0⟩ := Kd.at_int HR0.out (ji11) p102 q102
                                    obtain rfl : ad101 = ad102 := (by injection e102)
                                    replace p102 := eq_true p102
                                    replace q102 := eq_true q102
                                    have p103 : 0 ≤ ((ji11) : Int) := of_decide_eq_true (by first | (with_reducible assumption) | assumption)
                                    have q103 : (ji11) < (l0.length : Int) := of_decide_eq_true (by first | (with_reducible assumption) | assumption)
                                    obtain ⟨ad103, e103, hx103_0⟩ := Kd.at_int HR0.out (ji11) p103 q103
                                    obtain rfl : ad101 = ad103 := (by injection e103)
                                    replace p103 := eq_true p103
                                    replace q103 := eq_true q103
                                    go_wp2
                                    go_ret
                                    exact ⟨by first | rfl | (simp; done) | (simp only [← hji11] <;> (first | rfl | simp)) | (simp [*]; done), by repeat (first | exact Drawn0.refl _ | apply Drawn0.step)⟩
                                  · rw [if_neg c17] at H
                                    have c17b0 : decide ((rd l0 x16_2) < (wrap64 ((rd l0 (ji11)) + 2))) = false := decide_eq_false c17
                                    clear c17
                                    have H' := Aside0.mk H
                                    clear H
                                    have p101 : 0 ≤ (x16_2 : Int) := of_decide_eq_true (by first | (with_reducible assumption) | assumption)
                                    have q101 : x16_2 < (l0.length : Int) := of_decide_eq_true (by first | (with_reducible assumption) | assumption)
                                    obtain ⟨ad101, e101, hx101_0⟩ := Kd.at_int HR0.out x16_2 p101 q101
                                    cases e101
                                    replace p101 := eq_true p101
                                    replace q101 := eq_true q101
                                    have p102 : 0 ≤ ((ji11) : Int) := of_decide_eq_true (by first | (with_reducible assumption) | assumption)
                                    have q102 : (ji11) < (l0.length : Int) := of_decide_eq_true (by first | (with_reducible assumption) | assumption)
                                    obtain ⟨ad102, e102, hx102_0⟩ := Kd.at_int HR0.out (ji11) p102 q102
                                    obtain rfl : ad101 = ad102 := (by injection e102)
                                    replace p102 := eq_true p102
                                    replace q102 := eq_true q102
                                    have p103 : 0 ≤ ((ji11) : Int) := of_decide_eq_true (by first | (with_reducible assumption) | assumption)
                                    have q103 : (ji11) < (l0.length : Int) := of_decide_eq_true (by first | (with_reducible assumption) | assumption)
                                    obtain ⟨ad103, e103, hx103_0⟩ := Kd.at_int HR0.out (ji11) p103 q103
                                    obtain rfl : ad101 = ad103 := (by injection e103)
                                    replace p103 := eq_true p103
                                    replace q103 := eq_true q103
                                    go_wp2
                                    go_roundg k2
                                    case measure => have := HJ1.out; have := HK2.out; omega
                                    case rel => exact ⟨(wrap64 (x16_2 + 1)), (by first | rfl | (simp; done) | (simp [*]; done)), H', ⟨by have := HJ1.out; have := HK2.out; omega⟩, by repeat (first | exact Drawn0.refl _ | apply Drawn0.step)⟩
                                · rw [if_neg c16] at H
                                  have c16b0 : decide (0 < x16_2) = false := decide_eq_false c16
                                  clear c16
                                  have H' := Aside0.mk H
                                  clear H
                                  have p101 : 0 ≤ (x16_2 : Int) := of_decide_eq_true (by first | (with_reducible assumption) | assumption)
                                  have q101 : x16_2 < (l0.length : Int) := of_decide_eq_true (by first | (with_reducible assumption) | assumption)
                                  obtain ⟨ad101, e101, hx101_0⟩ := Kd.at_int HR0.out x16_2 p101 q101
                                  cases e101
                                  replace p101 := eq_true p101
                                  replace q101 := eq_true q101
                                  have p102 : 0 ≤ ((ji11) : Int) := of_decide_eq_true (by first | (with_reducible assumption) | assumption)
                                  have q102 : (ji11) < (l0.length : Int) := of_decide_eq_true (by first | (with_reducible assumption) | assumption)
                                  obtain ⟨ad102, e102, hx102_0⟩ := Kd.at_int HR0.out (ji11) p102 q102
                                  obtain rfl : ad101 = ad102 := (by injection e102)
                                  replace p102 := eq_true p102
                                  replace q102 := eq_true q102
                                  go_wp2
                                  go_roundg k2
                                  case measure => have := HJ1.out; have := HK2.out; omega
                                  case rel => exact ⟨(wrap64 (x16_2 + 1)), (by first | rfl | (simp; done) | (simp [*]; done)), H', ⟨by have := HJ1.out; have := HK2.out; omega⟩, by repeat (first | exact Drawn0.refl _ | apply Drawn0.step)⟩
                              · rw [if_neg c15] at H
                                have c15b0 : ((Int.tmod x16_2 2) == 0) = false := beq_eq_false_iff_ne.mpr c15
                                have c15b1 : ((Int.tmod x16_2 2) != 0) = true := bne_iff_ne.mpr c15
                                have H' := Aside0.mk H
                                clear H
                                have p101 : 0 ≤ (x16_2 : Int) := of_decide_eq_true (by first | (with_reducible assumption) | assumption)
                                have q101 : x16_2 < (l0.length : Int) := of_decide_eq_true (by first | (with_reducible assumption) | assumption)
                                obtain ⟨ad101, e101, hx101_0⟩ := Kd.at_int HR0.out x16_2 p101 q101
                                cases e101
                                replace p101 := eq_true p101
                                replace q101 := eq_true q101
                                have p102 : 0 ≤ ((ji11) : Int) := of_decide_eq_true (by first | (with_reducible assumption) | assumption)
                                have q102 : (ji11) < (l0.length : Int) := of_decide_eq_true (by first | (with_reducible assumption) | assumption)
                                obtain ⟨ad102, e102, hx102_0⟩ := Kd.at_int HR0.out (ji11) p102 q102
                                obtain rfl : ad101 = ad102 := (by injection e102)
                                replace p102 := eq_true p102
                                replace q102 := eq_true q102
                                go_wp2
                                go_roundg k2
                                case measure => have := HJ1.out; have := HK2.out; omega
                                case rel => exact ⟨(wrap64 (x16_2 + 1)), (by first | rfl | (simp; done) | (simp [*]; done)), H', ⟨by have := HJ1.out; have := HK2.out; omega⟩, by repeat (first | exact Drawn0.refl _ | apply Drawn0.step)⟩
                          · rw [if_neg c13] at H
                            exact absurd H (by simp)
                        · rw [if_neg c12] at H
                          exact absurd H (by simp)
                      · rw [if_neg c10] at H
                        have c10b0 : ((Int.tmod x16_2 2) == 1) = false := beq_eq_false_iff_ne.mpr c10
                        have c10b1 : ((Int.tmod x16_2 2) != 1) = true := bne_iff_ne.mpr c10
                        by_cases c18 : (Int.tmod x16_2 2) = 0
                        · rw [if_pos c18] at H
                          have c18b0 : ((Int.tmod x16_2 2) == 0) = true := beq_iff_eq.mpr c18
                          have c18b1 : ((Int.tmod x16_2 2) != 0) = false := bne_eq_false_iff_eq.mpr c18
                          clear c18
                          by_cases c19 : x16_2 > 0
                          · rw [if_pos c19] at H
                            have c19b0 : decide (0 < x16_2) = true := decide_eq_true c19
                            clear c19
                            obtain ⟨ji20, hji20⟩ : ∃ j_ : Int, (wrap64 (x16_2 - 1)) = j_ := ⟨_, rfl⟩
                            replace H : (if 0 ≤ (ji20) then (if (ji20) < (l0.length : Int) then (if (rd l0 x16_2) < (wrap64 ((rd l0 (ji20)) + 2)) then (some false) else (impl_canonical.l0 k2 l0 l0 (l0.length : Int) (wrap64 (x16_2 + 1)))) else (none)) else (none)) = some r := by first | (rw [hji20] at H; exact H) | (simp only [hji20] at H ⊢; exact H)
                            have hji20w : (IntKind.i64.wrap (x16_2 - 1)) = ji20 := (i64_w _).trans hji20
                            by_cases c21 : 0 ≤ (ji20)
                            · rw [if_pos c21] at H
                              have c21b0 : decide (0 ≤ (ji20)) = true := decide_eq_true c21
                              clear c21
                              by_cases c22 : (ji20) < (l0.length : Int)
                              · rw [if_pos c22] at H
                                have c22b0 : decide ((ji20) < (l0.length : Int)) = true := decide_eq_true c22
                                clear c22
                                by_cases c23 : (rd l0 x16_2) < (wrap64 ((rd l0 (ji20)) + 2))
                                · rw [if_pos c23] at H
                                  have c23b0 : decide ((rd l0 x16_2) < (wrap64 ((rd l0 (ji20)) + 2))) = true := decide_eq_true c23
                                  clear c23
                                  obtain rfl := Option.some.inj H
                                  have p101 : 0 ≤ (x16_2 : Int) := of_decide_eq_true (by first | (with_reducible assumption) | assumption)
                                  have q101 : x16_2 < (l0.length : Int) := of_decide_eq_true (by first | (with_reducible assumption) | assumption)
                                  obtain ⟨ad101, e101, hx101_0⟩ := Kd.at_int HR0.out x16_2 p101 q101
                                  cases e101
                                  replace p101 := eq_true p101
                                  replace q101 := eq_true q101
                                  have p104 : 0 ≤ ((ji20) : Int) := of_decide_eq_true (by first | (with_reducible assumption) | assumption)
                                  have q104 : (ji20) < (l0.length : Int) := of_decide_eq_true (by first | (with_reducible assumption) | assumption)
                                  obtain ⟨ad104, e104, hx104_0⟩ := Kd.at_int HR0.out (ji20) p104 q104
                                  obtain rfl : ad101 = ad104 := (by injection e104)
                                  replace p104 := eq_true p104
                                  replace q104 := eq_true q104
                                  go_wp2
                                  go_ret
                                  exact ⟨by first | rfl | (simp; done) | (simp only [← hji20] <;> (first | rfl | simp)) | (simp [*]; done), by repeat (first | exact Drawn0.refl _ | apply Drawn0.step)⟩
                                · rw [if_neg c23] at H
                                  have c23b0 : decide ((rd l0 x16_2) < (wrap64 ((rd l0 (ji20)) + 2))) = false := decide_eq_false c23
                                  clear c23
                                  have H' := Aside0.mk H
                                  clear H
                                  have p101 : 0 ≤ (x16_2 : Int) := of_decide_eq_true (by first | (with_reducible assumption) | assumption)
                                  have q101 : x16_2 < (l0.length : Int) := of_decide_eq_true (by first | (with_reducible assumption) | assumption)
                                  obtain ⟨ad101, e101, hx101_0⟩ := Kd.at_int HR0.out x16_2 p101 q101
                                  cases e101
                                  replace p101 := eq_true p101
                                  replace q101 := eq_true q101
                                  have p104 : 0 ≤ ((ji20) : Int) := of_decide_eq_true (by first | (with_reducible assumption) | assumption)
                                  have q104 : (ji20) < (l0.length : Int) := of_decide_eq_true (by first | (with_reducible assumption) | assumption)
                                  obtain ⟨ad104, e104, hx104_0⟩ := Kd.at_int HR0.out (ji20) p104 q104
                                  obtain rfl : ad101 = ad104 := (by injection e104)
                                  replace p104 := eq_true p104
                                  replace q104 := eq_true q104
                                  go_wp2
                                  go_roundg k2
                                  case measure => have := HJ1.out; have := HK2.out; omega
                                  case rel => exact ⟨(wrap64 (x16_2 + 1)), (by first | rfl | (simp; done) | (simp [*]; done)), H', ⟨by have := HJ1.out; have := HK2.out; omega⟩, by repeat (first | exact Drawn0.refl _ | apply Drawn0.step)⟩
                              · rw [if_neg c22] at H
                                exact absurd H (by simp)
                            · rw [if_neg c21] at H
                              exact absurd H (by simp)
                          · rw [if_neg c19] at H
                            have c19b0 : decide (0 < x16_2) = false := decide_eq_false c19
                            clear c19
                            have H' := Aside0.mk H
                            clear H
                            have p101 : 0 ≤ (x16_2 : Int) := of_decide_eq_true (by first | (with_reducible assumption) | assumption)
                            have q101 : x16_2 < (l0.length : Int) := of_decide_eq_true (by first | (with_reducible assumption) | assumption)
                            obtain ⟨ad101, e101, hx101_0⟩ := Kd.at_int HR0.out x16_2 p101 q101
                            cases e101
                            replace p101 := eq_true p101
                            replace q101 := eq_true q101
                            go_wp2
                            go_roundg k2
                            case measure => have := HJ1.out; have := HK2.out; omega
                            case rel => exact ⟨(wrap64 (x16_2 + 1)), (by first | rfl | (simp; done) | (simp [*]; done)), H', ⟨by have := HJ1.out; have := HK2.out; omega⟩, by repeat (first | exact Drawn0.refl _ | apply Drawn0.step)⟩
                        · rw [if_neg c18] at H
                          have c18b0 : ((Int.tmod x16_2 2) == 0) = false := beq_eq_false_iff_ne.mpr c18
                          have c18b1 : ((Int.tmod x16_2 2) != 0) = true := bne_iff_ne.mpr c18
                          have H' := Aside0.mk H
                          clear H
                          have p101 : 0 ≤ (x16_2 : Int) := of_decide_eq_true (by first | (with_reducible assumption) | assumption)
                          have q101 : x16_2 < (l0.length : Int) := of_decide_eq_true (by first | (with_reducible assumption) | assumption)
                          obtain ⟨ad101, e101, hx101_0⟩ := Kd.at_int HR0.out x16_2 p101 q101
                          cases e101
                          replace p101 := eq_true p101
                          replace q101 := eq_true q101
                          go_wp2
                          go_roundg k2
                          case measure => have := HJ1.out; have := HK2.out; omega
                          case rel => exact ⟨(wrap64 (x16_2 + 1)), (by first | rfl | (simp; done) | (simp [*]; done)), H', ⟨by have := HJ1.out; have := HK2.out; omega⟩, by repeat (first | exact Drawn0.refl _ | apply Drawn0.step)⟩
                · rw [if_neg c7] at H
                  exact absurd H (by simp)
              · rw [if_neg c6] at H
                exact absurd H (by simp)
            · rw [if_neg c5] at H
              have c5b0 : decide (x16_2 < (l0.length : Int)) = false := decide_eq_false c5
              clear c5
              obtain rfl := Option.some.inj H
              go_wp2
              go_ret
              exact ⟨by first | rfl | (simp; done) | (simp [*]; done), by repeat (first | exact Drawn0.refl _ | apply Drawn0.step)⟩

/-- THE ONE PURE STATEMENT of impl_canonical: yours. -/
def impl_canonical.Pure : Prop := ∀ (l0 : List Int), l0.length ≤ maxLen → l0.length * 8 ≤ 140737488351232 → (∀ x ∈ l0, (Lit.int .i64 x).wf = true) → ∃ k, impl_canonical.f k l0 = some true
theorem impl_canonical.walk (P : impl_canonical.Pure) (a0 : Option Addr) (len0 cap0 : Nat) (z0 : List Int) (w : World) (w0 : (a0 = none ∧ len0 = 0 ∧ cap0 = 0 ∧ z0 = []) ∨ ∃ x, a0 = some x ∧ len0 ≤ cap0 ∧ cap0 ≤ maxLen ∧ z0.length = cap0 ∧ (∀ i, i < z0.length → w.cell? (x.add i) = some (.int .i64 (z0.getD i 0))) ∧ ∀ n ∈ z0, (Lit.int .i64 n).wf = true) (y0 : len0 * 8 ≤ 140737488351232) :
    Calls Try.prog 68 #[.slice a0 len0 cap0] w fun e w' => e = .returned (.bool true) ∧ Below w.heap.size w w' := by
  obtain ⟨l0, rfl, hr0, hm0, hw0, hc0⟩ := ReadsInt.ofRowC w0
  obtain ⟨k, h⟩ := P l0 hm0 y0 hw0
  refine (impl_canonical.calls k _ _ l0 true w (Kd.C_of_reads (d := (0 : Int)) (h1 := fun _ => rfl) hr0) hc0 h).mono ?_
  rintro e w' ⟨rfl, hd⟩
  exact ⟨rfl, hd.below⟩

end Go.Proofs.Ytnpmkcbbmeekaaa.C
