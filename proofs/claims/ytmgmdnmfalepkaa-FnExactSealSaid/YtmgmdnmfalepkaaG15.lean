/- Parts of the proof (see the row's own text): Ldec, PDecS, DecH, PStb, Far. -/
import Derived.Test.YtmgmdnmfalepkaaG4
import Derived.Test.YtmgmdnmfalepkaaG8
import Derived.Test.YtmgmdnmfalepkaaG9
import Derived.Test.YtmgmdnmfalepkaaG11
import Derived.Test.YtmgmdnmfalepkaaG12
import Derived.Lib.Bytes
import Derived.Test.YtmgmdnmfalepkaaG14
import Derived.Lib.AppendZerosOnto
import Derived.Lib.SliceRun
namespace Go.Proofs.Ytmgmdnmfalepkaa.L
open Go.RowKit Go.Proofs.YtmgmdnmfalepkaaW.PrintWords Go.Proofs.YtmgmdnmfalepkaaW.PrintLast Go.Proofs.YtmgmdnmfalepkaaW.PrintMore
attribute [local go_sem] max2_int min2_int max_two min_two max_three min_three max_four min_four
set_option linter.unusedVariables false
set_option linter.unusedSimpArgs false
def spec_l4read.l0 : Nat → List Int → Int → Int → Int → Int → Option (Int × Int)
  | 0, _, _, _, _, _ => none
  | k + 1, x0, x1, x6, x7, x8 => if x8 < 4 then (if (wrap64 (x1 + x8)) ≥ (x0.length : Int) then (some (0, (-1))) else (if 0 ≤ (wrap64 (x1 + x8)) then (if (wrap64 (x1 + x8)) < (x0.length : Int) then (if (wrap64 (rd x0 (wrap64 (x1 + x8)))) < 128 then (some (wrap64 (x6 + (wrap64 ((Int.tmod (wrap64 (rd x0 (wrap64 (x1 + x8)))) 128) * x7))), wrap64 ((wrap64 (x1 + x8)) + 1))) else (spec_l4read.l0 k x0 x1 (wrap64 (x6 + (wrap64 ((Int.tmod (wrap64 (rd x0 (wrap64 (x1 + x8)))) 128) * x7)))) (wrap64 (x7 * 128)) (wrap64 (x8 + 1)))) else (none)) else (none))) else (some (0, (-1)))
def spec_l4read.f (k : Nat) (l0 : List Int) (a1 : Int) : Option (Int × Int) := spec_l4read.l0 k l0 a1 0 1 0
theorem spec_l4read.mono_l : ∀ k, (∀ y0 y1 y2 y3 y4, LeO (spec_l4read.l0 k y0 y1 y2 y3 y4) (spec_l4read.l0 (k + 1) y0 y1 y2 y3 y4))
  | 0 => fun _ _ _ _ _ r h => by simp [spec_l4read.l0] at h
  | k + 1 => by
    have ih0 := spec_l4read.mono_l k
    · intro y0 y1 y2 y3 y4
      unfold spec_l4read.l0
      repeat' first
      | (with_reducible exact ih0 _ _ _ _ _)
      | (with_reducible exact LeO.refl _)
      | (with_reducible exact LeO.none _)
      | (with_reducible refine LeO.ite ?_ ?_)
      | (with_reducible refine LeO.bind ?_ (fun _ => ?_))
      | exact ih0 _ _ _ _ _
      | exact LeO.none _
      | refine LeO.ite ?_ ?_
      | refine LeO.bind ?_ (fun _ => ?_)
theorem spec_l4read.mono : ∀ a0 a1 k, LeO (spec_l4read.f k a0 a1) (spec_l4read.f (k + 1) a0 a1) := by
  intro a0 a1 k
  have ih0 := spec_l4read.mono_l k
  unfold spec_l4read.f
  repeat' first
      | (with_reducible exact ih0 _ _ _ _ _)
      | (with_reducible exact LeO.refl _)
      | (with_reducible exact LeO.none _)
      | (with_reducible refine LeO.ite ?_ ?_)
      | (with_reducible refine LeO.bind ?_ (fun _ => ?_))
      | exact ih0 _ _ _ _ _
      | exact LeO.none _
      | refine LeO.ite ?_ ?_
      | refine LeO.bind ?_ (fun _ => ?_)
set_option maxHeartbeats 8000000 in
set_option maxRecDepth 100000 in
theorem spec_l4read.calls (k : Nat) (A0 : Option Addr) (c0 : Nat) (l0 : List Int) (a1 : Int) (r1 : Int) (r2 : Int) (w : World) (hr0 : Kd.C (Kd.int .u8) w A0 l0.length l0) (hc0 : l0.length ≤ c0) (h : spec_l4read.f k l0 a1 = some (r1, r2)) :
    Calls Try.prog 140 #[.slice A0 l0.length c0, .int .i64 a1] w fun e w' => e = .returned (.tuple #[.int .i64 r1, .int .i64 r2]) ∧ Drawn0 w w' := by
  have HR0 := Aside0.mk hr0
  have HC0 := Aside0.mk hc0
  clear hr0 hc0
  have H : (spec_l4read.l0 k l0 a1 0 1 0) = some (r1, r2) := h
  clear h
  have H' := Aside0.mk H
  clear H
  go_enter Try.func140, Try.ntmps140
  go_wp2
  go_loopg [6, 7, 8] k (fun kq v6 v7 v8 w' => ∃ (x6_1 : Int) (x7_1 : Int) (x8_1 : Int), v6 = .int .i64 x6_1 ∧ v7 = .int .i64 x7_1 ∧ v8 = .int .i64 x8_1 ∧ Aside0 (spec_l4read.l0 kq l0 a1 x6_1 x7_1 x8_1 = some (r1, r2)) ∧ Aside0 (kq ≤ k) ∧ Drawn0 w w')
  case atStart => exact ⟨(0), (1), (0), (by first | rfl | (simp; done) | (simp [*]; done)), (by first | rfl | (simp; done) | (simp [*]; done)), (by first | rfl | (simp; done) | (simp [*]; done)), H', ⟨Nat.le_refl _⟩, by repeat (first | exact Drawn0.refl _ | apply Drawn0.step)⟩
  case round =>
    clear H'
    try clear c1
    try clear p2
    obtain ⟨x6_1, x7_1, x8_1, rfl, rfl, rfl, HA, HK1, ⟨m1, rfl⟩⟩ := hrel
    cases gk with
    | zero => exact absurd HA.out (by simp [spec_l4read.l0])
    | succ k1 =>
      have H := HA.out
      clear HA
      simp only [spec_l4read.l0] at H
      by_cases c3 : x8_1 < 4
      · rw [if_pos c3] at H
        have c3b0 : decide (x8_1 < 4) = true := decide_eq_true c3
        clear c3
        by_cases c4 : (wrap64 (a1 + x8_1)) ≥ (l0.length : Int)
        · rw [if_pos c4] at H
          have c4b0 : decide ((l0.length : Int) ≤ (wrap64 (a1 + x8_1))) = true := decide_eq_true c4
          clear c4
          simp only [Option.some.injEq, Prod.mk.injEq] at H
          obtain ⟨rfl, rfl⟩ := H
          go_wp2
          go_ret2
          exact ⟨by first | rfl | (simp; done) | (simp [*]; done), by repeat (first | exact Drawn0.refl _ | apply Drawn0.step)⟩
        · rw [if_neg c4] at H
          have c4b0 : decide ((l0.length : Int) ≤ (wrap64 (a1 + x8_1))) = false := decide_eq_false c4
          clear c4
          obtain ⟨ji5, hji5⟩ : ∃ j_ : Int, (wrap64 (a1 + x8_1)) = j_ := ⟨_, rfl⟩
          replace H : (if 0 ≤ (ji5) then (if (ji5) < (l0.length : Int) then (if (wrap64 (rd l0 (ji5))) < 128 then (some (wrap64 (x6_1 + (wrap64 ((Int.tmod (wrap64 (rd l0 (ji5))) 128) * x7_1))), wrap64 ((ji5) + 1))) else (spec_l4read.l0 k1 l0 a1 (wrap64 (x6_1 + (wrap64 ((Int.tmod (wrap64 (rd l0 (ji5))) 128) * x7_1)))) (wrap64 (x7_1 * 128)) (wrap64 (x8_1 + 1)))) else (none)) else (none)) = some (r1, r2) := by first | (rw [hji5] at H; exact H) | (simp only [hji5] at H ⊢; exact H)
          (try rw [hji5] at c4b0)
          have hji5w : (IntKind.i64.wrap (a1 + x8_1)) = ji5 := (i64_w _).trans hji5
          by_cases c6 : 0 ≤ (ji5)
          · rw [if_pos c6] at H
            have c6b0 : decide (0 ≤ (ji5)) = true := decide_eq_true c6
            clear c6
            by_cases c7 : (ji5) < (l0.length : Int)
            · rw [if_pos c7] at H
              have c7b0 : decide ((ji5) < (l0.length : Int)) = true := decide_eq_true c7
              clear c7
              by_cases c8 : (wrap64 (rd l0 (ji5))) < 128
              · rw [if_pos c8] at H
                have c8b0 : decide ((wrap64 (rd l0 (ji5))) < 128) = true := decide_eq_true c8
                clear c8
                simp only [Option.some.injEq, Prod.mk.injEq] at H
                obtain ⟨rfl, rfl⟩ := H
                have p446 : 0 ≤ ((ji5) : Int) := of_decide_eq_true (by first | (with_reducible assumption) | assumption)
                have q446 : (ji5) < (l0.length : Int) := of_decide_eq_true (by first | (with_reducible assumption) | assumption)
                obtain ⟨ad446, e446, hx446_0⟩ := Kd.at_int HR0.out (ji5) p446 q446
                cases e446
                replace p446 := eq_true p446
                replace q446 := eq_true q446
                go_wp2
                go_ret2
                exact ⟨by first | rfl | (simp; done) | (simp only [← hji5] <;> (first | rfl | simp)) | (simp [*]; done), by repeat (first | exact Drawn0.refl _ | apply Drawn0.step)⟩
              · rw [if_neg c8] at H
                have c8b0 : decide ((wrap64 (rd l0 (ji5))) < 128) = false := decide_eq_false c8
                clear c8
                have H' := Aside0.mk H
                clear H
                have p446 : 0 ≤ ((ji5) : Int) := of_decide_eq_true (by first | (with_reducible assumption) | assumption)
                have q446 : (ji5) < (l0.length : Int) := of_decide_eq_true (by first | (with_reducible assumption) | assumption)
                obtain ⟨ad446, e446, hx446_0⟩ := Kd.at_int HR0.out (ji5) p446 q446
                cases e446
                replace p446 := eq_true p446
                replace q446 := eq_true q446
                go_wp2
                go_roundg k1
                case measure => have := HK1.out; omega
                case rel => exact ⟨(wrap64 (x6_1 + (wrap64 ((Int.tmod (wrap64 (rd l0 (ji5))) 128) * x7_1)))), (wrap64 (x7_1 * 128)), (wrap64 (x8_1 + 1)), (by first | rfl | (simp; done) | (simp only [← hji5] <;> (first | rfl | simp)) | (simp [*]; done)), (by first | rfl | (simp; done) | (simp [*]; done)), (by first | rfl | (simp; done) | (simp [*]; done)), H', ⟨by have := HK1.out; omega⟩, by repeat (first | exact Drawn0.refl _ | apply Drawn0.step)⟩
            · rw [if_neg c7] at H
              exact absurd H (by simp)
          · rw [if_neg c6] at H
            exact absurd H (by simp)
      · rw [if_neg c3] at H
        have c3b0 : decide (x8_1 < 4) = false := decide_eq_false c3
        clear c3
        simp only [Option.some.injEq, Prod.mk.injEq] at H
        obtain ⟨rfl, rfl⟩ := H
        go_wp2
        go_ret2
        exact ⟨by first | rfl | (simp; done) | (simp [*]; done), by repeat (first | exact Drawn0.refl _ | apply Drawn0.step)⟩
mutual
def spec_l4lines.j0 : Nat → List Int → Int → Int → Int → Bool → Option (Int × (List (List Int)) × Bool)
  | 0, _, _, _, _, _ => none
  | k + 1, x0, x5, x7, x8, x35 => if x35 = true then (some (0, ([] : List (List Int)), false)) else (spec_l4lines.l0 k x0 x5 x7 x8 ([] : List (List Int)) 0)
def spec_l4lines.l0 : Nat → List Int → Int → Int → Int → List (List Int) → Int → Option (Int × (List (List Int)) × Bool)
  | 0, _, _, _, _, _, _ => none
  | k + 1, x0, x5, x7, x8, x9, x10 => if x10 < x7 then ((spec_l4read.f k x0 x8).bind fun bt451 => (if bt451.2 < 0 then (some (0, ([] : List (List Int)), false)) else (if bt451.1 > (wrap64 ((x0.length : Int) - bt451.2)) then (some (0, ([] : List (List Int)), false)) else (if 0 ≤ bt451.2 then (if bt451.2 ≤ (wrap64 (bt451.2 + bt451.1)) then (if (wrap64 (bt451.2 + bt451.1)) ≤ (x0.length : Int) then (if ([] : List Int).length + ((x0.take ((wrap64 (bt451.2 + bt451.1)) : Int).toNat).drop (bt451.2 : Int).toNat).length < 140737488355328 then (if x9.length < 5864062014805 then (spec_l4lines.l0 k x0 x5 x7 (wrap64 (bt451.2 + bt451.1)) (x9 ++ [(([] : List Int) ++ ((x0.take ((wrap64 (bt451.2 + bt451.1)) : Int).toNat).drop (bt451.2 : Int).toNat))]) (wrap64 (x10 + 1))) else (none)) else (none)) else (none)) else (none)) else (none))))) else (some (x5, x9, true))
end
def spec_l4lines.f (k : Nat) (l0 : List Int) : Option (Int × (List (List Int)) × Bool) := if (l0.length : Int) < 2 then (some (0, ([] : List (List Int)), false)) else ((spec_l4read.f k l0 2).bind fun bt447 => (if bt447.2 < 0 then (some (0, ([] : List (List Int)), false)) else ((spec_l4read.f k l0 bt447.2).bind fun bt449 => (if bt449.2 < 0 then (spec_l4lines.j0 k l0 bt447.1 bt449.1 bt449.2 true) else (spec_l4lines.j0 k l0 bt447.1 bt449.1 bt449.2 (decide (bt449.1 > 1000)))))))
theorem spec_l4lines.mono_l : ∀ k, (∀ y0 y1 y2 y3 y4, LeO (spec_l4lines.j0 k y0 y1 y2 y3 y4) (spec_l4lines.j0 (k + 1) y0 y1 y2 y3 y4)) ∧ (∀ y0 y1 y2 y3 y4 y5, LeO (spec_l4lines.l0 k y0 y1 y2 y3 y4 y5) (spec_l4lines.l0 (k + 1) y0 y1 y2 y3 y4 y5))
  | 0 => ⟨fun _ _ _ _ _ r h => by simp [spec_l4lines.j0] at h, fun _ _ _ _ _ _ r h => by simp [spec_l4lines.l0] at h⟩
  | k + 1 => by
    obtain ⟨ih0, ih1⟩ := spec_l4lines.mono_l k
    refine ⟨?_, ?_⟩
    · intro y0 y1 y2 y3 y4
      unfold spec_l4lines.j0
      repeat' first
      | (with_reducible exact ih0 _ _ _ _ _)
      | (with_reducible exact ih1 _ _ _ _ _ _)
      | (with_reducible exact spec_l4read.mono _ _ _)
      | (with_reducible exact LeO.refl _)
      | (with_reducible exact LeO.none _)
      | (with_reducible refine LeO.ite ?_ ?_)
      | (with_reducible refine LeO.bind ?_ (fun _ => ?_))
      | exact ih0 _ _ _ _ _
      | exact ih1 _ _ _ _ _ _
      | exact spec_l4read.mono _ _ _
      | exact LeO.none _
      | refine LeO.ite ?_ ?_
      | refine LeO.bind ?_ (fun _ => ?_)
    · intro y0 y1 y2 y3 y4 y5
      unfold spec_l4lines.l0
      repeat' first
      | (with_reducible exact ih0 _ _ _ _ _)
      | (with_reducible exact ih1 _ _ _ _ _ _)
      | (with_reducible exact spec_l4read.mono _ _ _)
      | (with_reducible exact LeO.refl _)
      | (with_reducible exact LeO.none _)
      | (with_reducible refine LeO.ite ?_ ?_)
      | (with_reducible refine LeO.bind ?_ (fun _ => ?_))
      | exact ih0 _ _ _ _ _
      | exact ih1 _ _ _ _ _ _
      | exact spec_l4read.mono _ _ _
      | exact LeO.none _
      | refine LeO.ite ?_ ?_
      | refine LeO.bind ?_ (fun _ => ?_)
theorem spec_l4lines.mono : ∀ a0 k, LeO (spec_l4lines.f k a0) (spec_l4lines.f (k + 1) a0) := by
  intro a0 k
  obtain ⟨ih0, ih1⟩ := spec_l4lines.mono_l k
  unfold spec_l4lines.f
  repeat' first
      | (with_reducible exact ih0 _ _ _ _ _)
      | (with_reducible exact ih1 _ _ _ _ _ _)
      | (with_reducible exact spec_l4read.mono _ _ _)
      | (with_reducible exact LeO.refl _)
      | (with_reducible exact LeO.none _)
      | (with_reducible refine LeO.ite ?_ ?_)
      | (with_reducible refine LeO.bind ?_ (fun _ => ?_))
      | exact ih0 _ _ _ _ _
      | exact ih1 _ _ _ _ _ _
      | exact spec_l4read.mono _ _ _
      | exact LeO.none _
      | refine LeO.ite ?_ ?_
      | refine LeO.bind ?_ (fun _ => ?_)
set_option maxHeartbeats 8000000 in
set_option maxRecDepth 100000 in
theorem spec_l4lines.calls (k : Nat) (A0 : Option Addr) (c0 : Nat) (l0 : List Int) (r1 : Int) (r2 : List (List Int)) (r3 : Bool) (w : World) (hr0 : Kd.C (Kd.int .u8) w A0 l0.length l0) (hc0 : l0.length ≤ c0) (h : spec_l4lines.f k l0 = some (r1, r2, r3)) :
    Calls Try.prog 100 #[.slice A0 l0.length c0] w fun e w' => ∃ v1_ : Value, e = .returned (.tuple #[.int .i64 r1, v1_, .bool r3]) ∧ Kd.S (Kd.slice 5 (Kd.int .u8)) 33 w' w.heap.size (fun _ => True) v1_ r2 ∧ Below w.heap.size w w' := by
  have HR0 := Aside0.mk hr0
  have HC0 := Aside0.mk hc0
  clear hr0 hc0
  have HB := Aside0.mk (Below.refl w.heap.size w)
  have H : (if (l0.length : Int) < 2 then (some (0, ([] : List (List Int)), false)) else ((spec_l4read.f k l0 2).bind fun bt447 => (if bt447.2 < 0 then (some (0, ([] : List (List Int)), false)) else ((spec_l4read.f k l0 bt447.2).bind fun bt449 => (if bt449.2 < 0 then (spec_l4lines.j0 k l0 bt447.1 bt449.1 bt449.2 true) else (spec_l4lines.j0 k l0 bt447.1 bt449.1 bt449.2 (decide (bt449.1 > 1000)))))))) = some (r1, r2, r3) := h
  clear h
  by_cases c2 : (l0.length : Int) < 2
  · rw [if_pos c2] at H
    have c2b0 : decide ((l0.length : Int) < 2) = true := decide_eq_true c2
    have c2b1 : decide (l0.length < 2) = true := decide_eq_true (by omega)
    clear c2
    simp only [Option.some.injEq, Prod.mk.injEq] at H
    obtain ⟨rfl, rfl, rfl⟩ := H
    go_enter Try.func100, Try.ntmps100
    go_wp2
    go_ret3
    exact ⟨_, by first | rfl | (simp [errW_none, errW_some] <;> rfl) | (simp [*, errW_none, errW_some] <;> rfl), by first | exact Kd.S_nil _ _ _ _ _ | exact Kd.N_nil _ _ _ _ _ | exact Kd.V_nil _ _ _ _ _ | exact Kd.Q_nil _ _ _ _ _ | exact Kd.R_nil _ _ _ _ _, by repeat (first | (with_reducible first | exact HB.out | apply below_alloc | apply pw_below_drewN | apply below_drew1) | exact HB.out)⟩
  · rw [if_neg c2] at H
    have c2b0 : decide ((l0.length : Int) < 2) = false := decide_eq_false c2
    have c2b1 : decide (l0.length < 2) = false := decide_eq_false (by omega)
    clear c2
    replace H := Option.bind_eq_some_iff.mp H
    obtain ⟨⟨t447, t448⟩, A30, H⟩ := H
    replace H : (if t448 < 0 then (some (0, ([] : List (List Int)), false)) else ((spec_l4read.f k l0 t448).bind fun bt449 => (if bt449.2 < 0 then (spec_l4lines.j0 k l0 t447 bt449.1 bt449.2 true) else (spec_l4lines.j0 k l0 t447 bt449.1 bt449.2 (decide (bt449.1 > 1000)))))) = some (r1, r2, r3) := H
    have A3 := Aside0.mk A30
    clear A30
    by_cases c4 : t448 < 0
    · rw [if_pos c4] at H
      have c4b0 : decide (t448 < 0) = true := decide_eq_true c4
      clear c4
      simp only [Option.some.injEq, Prod.mk.injEq] at H
      obtain ⟨rfl, rfl, rfl⟩ := H
      go_enter Try.func100, Try.ntmps100
      go_wp2_with (first | ((with_reducible refine gate_callee (f := 140) rfl ?_); refine goesL_ (some 19) rfl rfl Try.func140 (by kernel_rfl) rfl #[.slice A0 l0.length c0, .int .i64 2] rfl (by (try simp only [List.map_toArray, List.map_cons, List.map_nil]); first | done | rfl | (simp only [List.length_drop, List.length_take]; rfl)) ?_; (with_reducible refine (spec_l4read.calls k _ _ l0 2 t447 t448 _ ?side1 ?side2 A3.out).mono ?_); (case side1 => repeat (first | exact HR0.out | (with_reducible refine Kd.C_alloc ?_ _) | (with_reducible refine Kd.C_drewN ?_ _) | (with_reducible refine Kd.C_drew ?_))); (case side2 => exact HC0.out); rintro e w' ⟨rfl, ⟨nd, rfl⟩⟩; refine ⟨_, rfl, ?_⟩))
      go_ret3
      exact ⟨_, by first | rfl | (simp [errW_none, errW_some] <;> rfl) | (simp [*, errW_none, errW_some] <;> rfl), by first | exact Kd.S_nil _ _ _ _ _ | exact Kd.N_nil _ _ _ _ _ | exact Kd.V_nil _ _ _ _ _ | exact Kd.Q_nil _ _ _ _ _ | exact Kd.R_nil _ _ _ _ _, by repeat (first | (with_reducible first | exact HB.out | apply below_alloc | apply pw_below_drewN | apply below_drew1) | exact HB.out)⟩
    · rw [if_neg c4] at H
      have c4b0 : decide (t448 < 0) = false := decide_eq_false c4
      clear c4
      replace H := Option.bind_eq_some_iff.mp H
      obtain ⟨⟨t449, t450⟩, A50, H⟩ := H
      replace H : (if t450 < 0 then (spec_l4lines.j0 k l0 t447 t449 t450 true) else (spec_l4lines.j0 k l0 t447 t449 t450 (decide (t449 > 1000)))) = some (r1, r2, r3) := H
      have A5 := Aside0.mk A50
      clear A50
      have HC6 := Aside0.mk H
      clear H
      go_enter Try.func100, Try.ntmps100
      go_upto_region 7 with (first | ((with_reducible refine gate_callee (f := 140) rfl ?_); refine goesL_ (some 19) rfl rfl Try.func140 (by kernel_rfl) rfl #[.slice A0 l0.length c0, .int .i64 2] rfl (by (try simp only [List.map_toArray, List.map_cons, List.map_nil]); first | done | rfl | (simp only [List.length_drop, List.length_take]; rfl)) ?_; (with_reducible refine (spec_l4read.calls k _ _ l0 2 t447 t448 _ ?side1 ?side2 A3.out).mono ?_); (case side1 => repeat (first | exact HR0.out | (with_reducible refine Kd.C_alloc ?_ _) | (with_reducible refine Kd.C_drewN ?_ _) | (with_reducible refine Kd.C_drew ?_))); (case side2 => exact HC0.out); rintro e w' ⟨rfl, ⟨nd, rfl⟩⟩; refine ⟨_, rfl, ?_⟩) | ((with_reducible refine gate_callee (f := 140) rfl ?_); refine goesL_ (some 27) rfl rfl Try.func140 (by kernel_rfl) rfl #[.slice A0 l0.length c0, .int .i64 t448] rfl (by (try simp only [List.map_toArray, List.map_cons, List.map_nil]); first | done | rfl | (simp only [List.length_drop, List.length_take]; rfl)) ?_; (with_reducible refine (spec_l4read.calls k _ _ l0 t448 t449 t450 _ ?side1 ?side2 A5.out).mono ?_); (case side1 => repeat (first | exact HR0.out | (with_reducible refine Kd.C_alloc ?_ _) | (with_reducible refine Kd.C_drewN ?_ _) | (with_reducible refine Kd.C_drew ?_))); (case side2 => exact HC0.out); rintro e w' ⟨rfl, ⟨nd, rfl⟩⟩; refine ⟨_, rfl, ?_⟩))
      (try simp only [Act.put, List.setIfInBounds_toArray, List.set_cons_zero, List.set_cons_succ])
      go_cut [35] (fun v35 wc => ∃ (kq : Nat) (x35_5 : Bool), v35 = .bool x35_5 ∧ Aside0 (spec_l4lines.j0 kq l0 t447 t449 t450 x35_5 = some (r1, r2, r3)) ∧ Aside0 (kq ≤ k) ∧ Aside0 (Below w.heap.size w wc))
      case first =>
        have H := HC6.out
        clear HC6
        by_cases c7 : t450 < 0
        · rw [if_pos c7] at H
          have c7b0 : decide (t450 < 0) = true := decide_eq_true c7
          clear c7
          (first | rw [c7b0] | (simp only [i64_w, i32_w]; rw [c7b0]) | skip)
          have H' := Aside0.mk H
          clear H
          go_wp2
          go_meet
          case rel => exact ⟨_, (true), (by first | rfl | (simp; done) | (simp [*]; done)), H', ⟨by first | omega | exact Nat.le_refl _⟩, ⟨by repeat (first | (with_reducible first | exact HB.out | apply below_alloc | apply pw_below_drewN | apply below_drew1) | exact HB.out)⟩⟩
        · rw [if_neg c7] at H
          have c7b0 : decide (t450 < 0) = false := decide_eq_false c7
          clear c7
          (first | rw [c7b0] | (simp only [i64_w, i32_w]; rw [c7b0]) | skip)
          have H' := Aside0.mk H
          clear H
          go_wp2
          go_meet
          case rel => exact ⟨_, (decide (t449 > 1000)), (by first | rfl | (simp; done) | (simp [*]; done)), H', ⟨by first | omega | exact Nat.le_refl _⟩, ⟨by repeat (first | (with_reducible first | exact HB.out | apply below_alloc | apply pw_below_drewN | apply below_drew1) | exact HB.out)⟩⟩
      case rest =>
        clear HC6
        try clear c1
        try clear c2
        try clear c2b0
        try clear c2b1
        try clear p2
        try clear c4
        try clear c4b0
        try clear c7
        try clear c7b0
        obtain ⟨kq, x35_5, rfl, HA, HJ5, HB⟩ := hcut
        cases kq with
        | zero => exact absurd HA.out (by simp [spec_l4lines.j0])
        | succ kj5 =>
          have H := HA.out
          clear HA
          simp only [spec_l4lines.j0] at H
          by_cases c8 : x35_5 = true
          · subst c8
            have H1 : (some (0, ([] : List (List Int)), false)) = some (r1, r2, r3) := by rw [if_pos rfl] at H; exact H
            clear H
            have H := H1
            clear H1
            simp only [Option.some.injEq, Prod.mk.injEq] at H
            obtain ⟨rfl, rfl, rfl⟩ := H
            go_wp2
            go_ret3
            exact ⟨_, by first | rfl | (simp [errW_none, errW_some] <;> rfl) | (simp [*, errW_none, errW_some] <;> rfl), by first | exact Kd.S_nil _ _ _ _ _ | exact Kd.N_nil _ _ _ _ _ | exact Kd.V_nil _ _ _ _ _ | exact Kd.Q_nil _ _ _ _ _ | exact Kd.R_nil _ _ _ _ _, by repeat (first | (with_reducible first | exact HB.out | apply below_alloc | apply pw_below_drewN | apply below_drew1) | exact HB.out)⟩
          · replace c8 := Bool.eq_false_iff.mpr c8
            subst c8
            have H1 : (spec_l4lines.l0 kj5 l0 t447 t449 t450 ([] : List (List Int)) 0) = some (r1, r2, r3) := by rw [if_neg (show ¬ (false = true) by decide)] at H; exact H
            clear H
            have H := H1
            clear H1
            have H' := Aside0.mk H
            clear H
            go_wp2
            go_loopg [8, 9, 10] kj5 (fun kq v8 v9 v10 w' => ∃ (x8_2 : Int) (x9_2 : List (List Int)) (x10_2 : Int), v8 = .int .i64 x8_2 ∧ v10 = .int .i64 x10_2 ∧ Aside0 (spec_l4lines.l0 kq l0 t447 t449 x8_2 x9_2 x10_2 = some (r1, r2, r3)) ∧ Aside0 (kq ≤ kj5) ∧ Aside0 (Kd.S (Kd.slice 5 (Kd.int .u8)) 33 w' w.heap.size (fun _ => True) v9 x9_2) ∧ Aside0 (Below w.heap.size w w'))
            case atStart => exact ⟨(t450), (([] : List (List Int))), (0), (by first | rfl | (simp; done) | (simp [*]; done)), (by first | rfl | (simp; done) | (simp [*]; done)), H', ⟨Nat.le_refl _⟩, ⟨by first | exact Kd.S_nil _ _ _ _ _ | exact Kd.N_nil _ _ _ _ _ | exact Kd.V_nil _ _ _ _ _ | exact Kd.Q_nil _ _ _ _ _ | exact Kd.R_nil _ _ _ _ _⟩, ⟨by repeat (first | (with_reducible first | exact HB.out | apply below_alloc | apply pw_below_drewN | apply below_drew1) | exact HB.out)⟩⟩
            case round =>
              clear H'
              try clear c1
              try clear c2
              try clear c2b0
              try clear c2b1
              try clear p2
              try clear c4
              try clear c4b0
              try clear c7
              try clear c7b0
              try clear c8
              try clear p2
              obtain ⟨x8_2, x9_2, x10_2, rfl, rfl, HA, HK2, HO_9, HB⟩ := hrel
              cases gk with
              | zero => exact absurd HA.out (by simp [spec_l4lines.l0])
              | succ k2 =>
                have H := HA.out
                clear HA
                simp only [spec_l4lines.l0] at H
                by_cases c9 : x10_2 < t449
                · rw [if_pos c9] at H
                  have c9b0 : decide (x10_2 < t449) = true := decide_eq_true c9
                  clear c9
                  replace H := Option.bind_eq_some_iff.mp H
                  obtain ⟨⟨t451, t452⟩, A100, H⟩ := H
                  replace H : (if t452 < 0 then (some (0, ([] : List (List Int)), false)) else (if t451 > (wrap64 ((l0.length : Int) - t452)) then (some (0, ([] : List (List Int)), false)) else (if 0 ≤ t452 then (if t452 ≤ (wrap64 (t452 + t451)) then (if (wrap64 (t452 + t451)) ≤ (l0.length : Int) then (if ([] : List Int).length + ((l0.take ((wrap64 (t452 + t451)) : Int).toNat).drop (t452 : Int).toNat).length < 140737488355328 then (if x9_2.length < 5864062014805 then (spec_l4lines.l0 k2 l0 t447 t449 (wrap64 (t452 + t451)) (x9_2 ++ [(([] : List Int) ++ ((l0.take ((wrap64 (t452 + t451)) : Int).toNat).drop (t452 : Int).toNat))]) (wrap64 (x10_2 + 1))) else (none)) else (none)) else (none)) else (none)) else (none)))) = some (r1, r2, r3) := H
                  have A10 := Aside0.mk A100
                  clear A100
                  by_cases c11 : t452 < 0
                  · rw [if_pos c11] at H
                    have c11b0 : decide (t452 < 0) = true := decide_eq_true c11
                    clear c11
                    simp only [Option.some.injEq, Prod.mk.injEq] at H
                    obtain ⟨rfl, rfl, rfl⟩ := H
                    go_wp2_with (first | ((with_reducible refine gate_callee (f := 140) rfl ?_); refine goesL_ (some 44) rfl rfl Try.func140 (by kernel_rfl) rfl #[.slice A0 l0.length c0, .int .i64 x8_2] rfl (by (try simp only [List.map_toArray, List.map_cons, List.map_nil]); first | done | rfl | (simp only [List.length_drop, List.length_take]; rfl)) ?_; (with_reducible refine (spec_l4read.calls k2 _ _ l0 x8_2 t451 t452 _ ?side1 ?side2 A10.out).mono ?_); (case side1 => repeat (first | exact (Kd.C_below HR0.out HB.out) | (with_reducible refine Kd.C_alloc ?_ _) | (with_reducible refine Kd.C_drewN ?_ _) | (with_reducible refine Kd.C_drew ?_))); (case side2 => exact HC0.out); rintro e w' ⟨rfl, ⟨nd, rfl⟩⟩; refine ⟨_, rfl, ?_⟩))
                    go_ret3
                    exact ⟨_, by first | rfl | (simp [errW_none, errW_some] <;> rfl) | (simp [*, errW_none, errW_some] <;> rfl), by first | exact Kd.S_nil _ _ _ _ _ | exact Kd.N_nil _ _ _ _ _ | exact Kd.V_nil _ _ _ _ _ | exact Kd.Q_nil _ _ _ _ _ | exact Kd.R_nil _ _ _ _ _, by repeat (first | (with_reducible first | exact HB.out | apply below_alloc | apply pw_below_drewN | apply below_drew1) | exact HB.out)⟩
                  · rw [if_neg c11] at H
                    have c11b0 : decide (t452 < 0) = false := decide_eq_false c11
                    clear c11
                    by_cases c12 : t451 > (wrap64 ((l0.length : Int) - t452))
                    · rw [if_pos c12] at H
                      have c12b0 : decide ((wrap64 ((l0.length : Int) - t452)) < t451) = true := decide_eq_true c12
                      clear c12
                      simp only [Option.some.injEq, Prod.mk.injEq] at H
                      obtain ⟨rfl, rfl, rfl⟩ := H
                      go_wp2_with (first | ((with_reducible refine gate_callee (f := 140) rfl ?_); refine goesL_ (some 44) rfl rfl Try.func140 (by kernel_rfl) rfl #[.slice A0 l0.length c0, .int .i64 x8_2] rfl (by (try simp only [List.map_toArray, List.map_cons, List.map_nil]); first | done | rfl | (simp only [List.length_drop, List.length_take]; rfl)) ?_; (with_reducible refine (spec_l4read.calls k2 _ _ l0 x8_2 t451 t452 _ ?side1 ?side2 A10.out).mono ?_); (case side1 => repeat (first | exact (Kd.C_below HR0.out HB.out) | (with_reducible refine Kd.C_alloc ?_ _) | (with_reducible refine Kd.C_drewN ?_ _) | (with_reducible refine Kd.C_drew ?_))); (case side2 => exact HC0.out); rintro e w' ⟨rfl, ⟨nd, rfl⟩⟩; refine ⟨_, rfl, ?_⟩))
                      go_ret3
                      exact ⟨_, by first | rfl | (simp [errW_none, errW_some] <;> rfl) | (simp [*, errW_none, errW_some] <;> rfl), by first | exact Kd.S_nil _ _ _ _ _ | exact Kd.N_nil _ _ _ _ _ | exact Kd.V_nil _ _ _ _ _ | exact Kd.Q_nil _ _ _ _ _ | exact Kd.R_nil _ _ _ _ _, by repeat (first | (with_reducible first | exact HB.out | apply below_alloc | apply pw_below_drewN | apply below_drew1) | exact HB.out)⟩
                    · rw [if_neg c12] at H
                      have c12b0 : decide ((wrap64 ((l0.length : Int) - t452)) < t451) = false := decide_eq_false c12
                      clear c12
                      by_cases c13 : 0 ≤ t452
                      · rw [if_pos c13] at H
                        have c13b0 := eq_true c13
                        have c13b1 : decide (0 ≤ t452) = true := decide_eq_true c13
                        clear c13
                        by_cases c14 : t452 ≤ (wrap64 (t452 + t451))
                        · rw [if_pos c14] at H
                          have c14b0 := eq_true c14
                          have c14b1 : decide (t452 ≤ (wrap64 (t452 + t451))) = true := decide_eq_true c14
                          by_cases c15 : (wrap64 (t452 + t451)) ≤ (l0.length : Int)
                          · rw [if_pos c15] at H
                            have c15b0 := eq_true c15
                            have c15b1 : decide ((wrap64 (t452 + t451)) ≤ (l0.length : Int)) = true := decide_eq_true c15
                            by_cases c16 : ([] : List Int).length + ((l0.take ((wrap64 (t452 + t451)) : Int).toNat).drop (t452 : Int).toNat).length < 140737488355328
                            · rw [if_pos c16] at H
                              have LMc16 := Aside0.mk c16
                              clear c16
                              obtain ⟨y454, hy454⟩ : ∃ y_ : List Int, y_ = (([] : List Int) ++ ((l0.take ((wrap64 (t452 + t451)) : Int).toNat).drop (t452 : Int).toNat)) := ⟨_, rfl⟩
                              replace H : (if x9_2.length < 5864062014805 then (spec_l4lines.l0 k2 l0 t447 t449 (wrap64 (t452 + t451)) (x9_2 ++ [y454]) (wrap64 (x10_2 + 1))) else (none)) = some (r1, r2, r3) := by first | (rw [hy454]; with_reducible exact H) | (have H2_ := (Option.bind_some _ _).symm.trans H; rw [hy454]; with_reducible exact H2_) | (have H2_ := (Option.bind_some _ _).symm.trans H; with_reducible exact H2_) | with_reducible exact H | (rw [hy454]; exact H) | exact H
                              have Ny454 := Aside0.mk hy454
                              clear hy454
                              by_cases c17 : x9_2.length < 5864062014805
                              · rw [if_pos c17] at H
                                have LMc17 := Aside0.mk c17
                                clear c17
                                obtain ⟨y457, hy457⟩ : ∃ y_ : List (List Int), y_ = (x9_2 ++ [y454]) := ⟨_, rfl⟩
                                replace H : (spec_l4lines.l0 k2 l0 t447 t449 (wrap64 (t452 + t451)) y457 (wrap64 (x10_2 + 1))) = some (r1, r2, r3) := by first | (rw [hy457]; with_reducible exact H) | (have H2_ := (Option.bind_some _ _).symm.trans H; rw [hy457]; with_reducible exact H2_) | (have H2_ := (Option.bind_some _ _).symm.trans H; with_reducible exact H2_) | with_reducible exact H | (rw [hy457]; exact H) | exact H
                                have Ny457 := Aside0.mk hy457
                                clear hy457
                                have H' := Aside0.mk H
                                clear H
                                go_wp2_with (first | ((with_reducible refine gate_callee (f := 140) rfl ?_); refine goesL_ (some 44) rfl rfl Try.func140 (by kernel_rfl) rfl #[.slice A0 l0.length c0, .int .i64 x8_2] rfl (by (try simp only [List.map_toArray, List.map_cons, List.map_nil]); first | done | rfl | (simp only [List.length_drop, List.length_take]; rfl)) ?_; (with_reducible refine (spec_l4read.calls k2 _ _ l0 x8_2 t451 t452 _ ?side1 ?side2 A10.out).mono ?_); (case side1 => repeat (first | exact (Kd.C_below HR0.out HB.out) | (with_reducible refine Kd.C_alloc ?_ _) | (with_reducible refine Kd.C_drewN ?_ _) | (with_reducible refine Kd.C_drew ?_))); (case side2 => exact HC0.out); rintro e w' ⟨rfl, ⟨nd, rfl⟩⟩; refine ⟨_, rfl, ?_⟩; obtain ⟨i018, hi018, _, hsz18, _⟩ := info_parts info5; obtain ⟨A18, hcut18, hA18, hC18⟩ := print_mid_of (P := Try.prog) (Value.int .u8) 0 33 5 .i64 .i64 Try.underlying33 hi018 hsz18 A0 c0 l0 t452 (wrap64 (t452 + t451)) (of_decide_eq_true (by first | (with_reducible assumption) | assumption)) (by first | omega | exact of_decide_eq_true (by first | (with_reducible assumption) | assumption)) (of_decide_eq_true (by first | (with_reducible assumption) | assumption)) HC0.out; have HR453 := Aside0.mk (Kd.C_of_reads (h1 := fun _ => rfl) (hA18 _ (Kd.reads_of_C HR0.out))); have HC453 := Aside0.mk hC18; clear hA18 hC18 hi018 hsz18) | ((with_reducible refine gate_builtin (b := .append) (xs := #[.tmp 57, .tmp 63]) rfl ?_); (try (refine gate_guard (by rfl) ?_; dsimp only)); at_builtin; refine Kd.R_append_rows (Kd.int .u8) (w0 := w) w.heap.size rfl (.tmp 57) (.tmp 63) 33 5 (.int .u8 0) 1 rfl Try.underlying33 info5 rfl (by decide) (by omega) (.slice none 0 0) ([] : List Int) ((l0.take ((wrap64 (t452 + t451)) : Int).toNat).drop (t452 : Int).toNat) _ _ _ (fun _ => True) (fun _ => False) rfl rfl ?aO ?aR (fun _ _ h => h) (fun _ h => h.elim) ?aF ?aB ?aS ?aL ?_; (case aR => first | (rw [← show ((l0.take ((wrap64 (t452 + t451)) : Int).toNat).drop (t452 : Int).toNat).length = ((wrap64 (t452 + t451)).toNat - t452.toNat) from (by rw [List.length_drop, List.length_take]; have h_ : ((wrap64 (t452 + t451)) : Int) ≤ (l0.length : Int) := of_decide_eq_true (by first | (with_reducible assumption) | assumption); omega)]; repeat (first | exact (Kd.C_below HR453.out (by repeat (first | (with_reducible first | exact HB.out | apply below_alloc | apply pw_below_drewN | apply below_drew1) | exact HB.out))) | (with_reducible refine Kd.C_alloc ?_ _) | (with_reducible refine Kd.C_drewN ?_ _) | (with_reducible refine Kd.C_drew ?_))) | (repeat (first | exact (Kd.C_below HR453.out (by repeat (first | (with_reducible first | exact HB.out | apply below_alloc | apply pw_below_drewN | apply below_drew1) | exact HB.out))) | (with_reducible refine Kd.C_alloc ?_ _) | (with_reducible refine Kd.C_drewN ?_ _) | (with_reducible refine Kd.C_drew ?_)))); (case aB => exact (by repeat (first | (with_reducible first | exact HB.out | apply below_alloc | apply pw_below_drewN | apply below_drew1) | exact HB.out))); (case aF => exact (fun _ _ => trivial)); (case aO => exact ((Kd.R_nil _ _ _ _ (fun _ => True)))); (case aS => exact (below_size (by repeat (first | (with_reducible first | exact HB.out | apply below_alloc | apply pw_below_drewN | apply below_drew1) | exact HB.out)))); (case aL => have := LMc16.out; have hlx_ := (show ((l0.take ((wrap64 (t452 + t451)) : Int).toNat).drop (t452 : Int).toNat).length = ((wrap64 (t452 + t451)).toNat - t452.toNat) from (by rw [List.length_drop, List.length_take]; have h_ : ((wrap64 (t452 + t451)) : Int) ≤ (l0.length : Int) := of_decide_eq_true (by first | (with_reducible assumption) | assumption); omega)); omega); intro v455 w19 ho hb hg hat; rw [← Ny454.out] at ho; have n0_ := Aside0.mk (Kd.S_after (Kd.S_apart_nil (by (with_reducible repeat (first | apply Kd.S_alloc | apply Kd.S_drewN | apply Kd.S_drew)); exact HO_9.out)) hg hat); have n1_ := Aside0.mk (hb); have n2_ := Aside0.mk (ho); clear HO_9; clear HB; have HO_9 := n0_; have HB := n1_; have HO456 := n2_; clear n0_ n1_ n2_; clear ho hb hg hat; obtain ⟨Ao21, co21, eo21⟩ := Kd.R_slice HO456.out; subst eo21) | ((with_reducible refine gate_builtin (b := .append) (xs := #[.tmp 65, .tmp 67]) rfl ?_); (try (refine gate_guard (by rfl) ?_; dsimp only)); at_builtin; refine Kd.S_append (Kd.slice 5 (Kd.int .u8)) (w0 := w) w.heap.size rfl (.tmp 65) (.tmp 67) 41 33 (.slice none 0 0) 24 rfl Try.underlying41 info33 rfl (by decide) (by omega) u9 x9_2 y454 [.slice Ao21 y454.length co21] (fun _ => True) (fun k_ => some k_ = (.slice Ao21 y454.length co21 : Value).ownBlock) rfl rfl ?aP (fun k_ hk_ => ((Kd.R_mono (ok' := fun k_ => ((fun _ => True)) k_ ∧ some k_ ≠ (u9 : Value).ownBlock) (Kd.R_apart' (HO456.out) (Kd.S_typed HO_9.out) (by decide)) (fun k_ hk => ⟨trivial, hk.2⟩))).1 k_ hk_.symm) ?aF ?aO ?aB ?aS ?aL ?_; (case aP => exact Kd.M_row (Kd.R_mono (Kd.R_tight rfl (Kd.R_mono (ok' := fun k_ => ((fun _ => True)) k_ ∧ some k_ ≠ (u9 : Value).ownBlock) (Kd.R_apart' (HO456.out) (Kd.S_typed HO_9.out) (by decide)) (fun k_ hk => ⟨trivial, hk.2⟩))) (fun _ h_ => h_))); (case aB => exact (by repeat (first | (with_reducible first | exact HB.out | apply below_alloc | apply pw_below_drewN | apply below_drew1) | exact HB.out))); (case aF => exact (fun _ _ => trivial)); (case aO => exact (by (with_reducible repeat (first | apply Kd.S_alloc | apply Kd.S_drewN | apply Kd.S_drew)); exact Kd.S_mono HO_9.out (fun k_ hk => ⟨trivial, fun e_ => hk.2 e_⟩))); (case aS => exact (below_size (by repeat (first | (with_reducible first | exact HB.out | apply below_alloc | apply pw_below_drewN | apply below_drew1) | exact HB.out)))); (case aL => have := LMc17.out; omega); intro v458 w20 ho hb hg hat; rw [← Ny457.out] at ho; have n0_ := Aside0.mk (hb); have n1_ := Aside0.mk (ho); clear HB; clear HO_9; clear HO456; have HB := n0_; have HO459 := n1_; clear n0_ n1_; clear ho hb hg hat))
                                go_roundg k2
                                case measure => have := HJ5.out; have := HK2.out; omega
                                case rel => exact ⟨(wrap64 (t452 + t451)), (y457), (wrap64 (x10_2 + 1)), (by first | rfl | (simp; done) | (simp [*]; done)), (by first | rfl | (simp; done) | (simp [*]; done)), H', ⟨by have := HJ5.out; have := HK2.out; omega⟩, ⟨by (with_reducible repeat (first | apply Kd.S_alloc | apply Kd.S_drewN | apply Kd.S_drew)); exact HO459.out⟩, ⟨by repeat (first | (with_reducible first | exact HB.out | apply below_alloc | apply pw_below_drewN | apply below_drew1) | exact HB.out)⟩⟩
                              · rw [if_neg c17] at H
                                exact absurd H (by simp)
                            · rw [if_neg c16] at H
                              exact absurd H (by simp)
                          · rw [if_neg c15] at H
                            exact absurd H (by simp)
                        · rw [if_neg c14] at H
                          exact absurd H (by simp)
                      · rw [if_neg c13] at H
                        exact absurd H (by simp)
                · rw [if_neg c9] at H
                  have c9b0 : decide (x10_2 < t449) = false := decide_eq_false c9
                  clear c9
                  simp only [Option.some.injEq, Prod.mk.injEq] at H
                  obtain ⟨rfl, rfl, rfl⟩ := H
                  go_wp2
                  go_ret3
                  exact ⟨_, by first | rfl | (simp [errW_none, errW_some] <;> rfl) | (simp [*, errW_none, errW_some] <;> rfl), by (with_reducible repeat (first | apply Kd.S_alloc | apply Kd.S_drewN | apply Kd.S_drew)); exact HO_9.out, by repeat (first | (with_reducible first | exact HB.out | apply below_alloc | apply pw_below_drewN | apply below_drew1) | exact HB.out)⟩
def spec_DecodeSegment.j0 : Nat → List Int → Int → List (List Int) → Bool → Option (Int × (List (List Int)) × List Int × (List (List Int)) × Int)
  | 0, _, _, _, _ => none
  | k + 1, x0, x4, x5, x21 => if x21 = true then (some (0, ([] : List (List Int)), ([] : List Int), ([] : List (List Int)), 5)) else ((spec_l4build.f k x4 x5).bind fun bt467 => ((spec_l4encode.f k bt467.1 bt467.2.1 bt467.2.2.1 bt467.2.2.2).bind fun t478 => ((spec_l4sameBytes.f t478 x0).bind fun t481 => (if t481 = true then (some (bt467.1, bt467.2.1, bt467.2.2.1, bt467.2.2.2, 0)) else (some (0, ([] : List (List Int)), ([] : List Int), ([] : List (List Int)), 5))))))
def spec_DecodeSegment.f (k : Nat) (l0 : List Int) : Option (Int × (List (List Int)) × List Int × (List (List Int)) × Int) := (spec_l4lines.f k l0).bind fun bt461 => (if bt461.2.2 = true then ((spec_l4fits.f k bt461.1 bt461.2.1).bind fun t466 => (spec_DecodeSegment.j0 k l0 bt461.1 bt461.2.1 (!t466))) else (spec_DecodeSegment.j0 k l0 bt461.1 bt461.2.1 true))
theorem spec_DecodeSegment.mono_l : ∀ k, (∀ y0 y1 y2 y3, LeO (spec_DecodeSegment.j0 k y0 y1 y2 y3) (spec_DecodeSegment.j0 (k + 1) y0 y1 y2 y3))
  | 0 => fun _ _ _ _ r h => by simp [spec_DecodeSegment.j0] at h
  | k + 1 => by
    have ih0 := spec_DecodeSegment.mono_l k
    · intro y0 y1 y2 y3
      unfold spec_DecodeSegment.j0
      repeat' first
      | (with_reducible exact ih0 _ _ _ _)
      | (with_reducible exact spec_l4build.mono _ _ _)
      | (with_reducible exact spec_l4encode.mono _ _ _ _ _)
      | (with_reducible exact spec_l4fits.mono _ _ _)
      | (with_reducible exact spec_l4lines.mono _ _)
      | (with_reducible exact LeO.refl _)
      | (with_reducible exact LeO.none _)
      | (with_reducible refine LeO.ite ?_ ?_)
      | (with_reducible refine LeO.bind ?_ (fun _ => ?_))
      | exact ih0 _ _ _ _
      | exact spec_l4build.mono _ _ _
      | exact spec_l4encode.mono _ _ _ _ _
      | exact spec_l4fits.mono _ _ _
      | exact spec_l4lines.mono _ _
      | exact LeO.none _
      | refine LeO.ite ?_ ?_
      | refine LeO.bind ?_ (fun _ => ?_)
theorem spec_DecodeSegment.mono : ∀ a0 k, LeO (spec_DecodeSegment.f k a0) (spec_DecodeSegment.f (k + 1) a0) := by
  intro a0 k
  have ih0 := spec_DecodeSegment.mono_l k
  unfold spec_DecodeSegment.f
  repeat' first
      | (with_reducible exact ih0 _ _ _ _)
      | (with_reducible exact spec_l4build.mono _ _ _)
      | (with_reducible exact spec_l4encode.mono _ _ _ _ _)
      | (with_reducible exact spec_l4fits.mono _ _ _)
      | (with_reducible exact spec_l4lines.mono _ _)
      | (with_reducible exact LeO.refl _)
      | (with_reducible exact LeO.none _)
      | (with_reducible refine LeO.ite ?_ ?_)
      | (with_reducible refine LeO.bind ?_ (fun _ => ?_))
      | exact ih0 _ _ _ _
      | exact spec_l4build.mono _ _ _
      | exact spec_l4encode.mono _ _ _ _ _
      | exact spec_l4fits.mono _ _ _
      | exact spec_l4lines.mono _ _
      | exact LeO.none _
      | refine LeO.ite ?_ ?_
      | refine LeO.bind ?_ (fun _ => ?_)
end Go.Proofs.Ytmgmdnmfalepkaa.L

namespace Go.Proofs.Ytmgmdnmfalepkaa.PDec
open Go.RowKit Go.Proofs.YtmgmdnmfalepkaaW.PrintWords Go.Proofs.Ytmgmdnmfalepkaa.PKit Go.Proofs.Ytmgmdnmfalepkaa.PSeg Go.Proofs.Ytmgmdnmfalepkaa.PEnc Go.Proofs.Ytmgmdnmfalepkaa.L Go.Proofs.Ytmgmdnmfalepkaa.HelpBB
set_option linter.unusedVariables false
def readV (n : Nat) (o : Option (Nat × List Int)) : Int × Int := match o with
  | some q => ((q.1 : Int), ((n - q.2.length : Nat) : Int))
  | none => (0, -1)
theorem getD_drop (b : List Int) (i : Nat) (h : i < b.length) : b.drop i = b.getD i 0 :: b.drop (i + 1) := by
  rw [List.drop_eq_getElem_cons h]
  simp [List.getD, List.getElem?_eq_getElem h]
theorem read_ev (b : List Int) (i : Nat) (hb : ∀ x ∈ b, 0 ≤ x ∧ x ≤ 255) (hl : b.length ≤ 1048576) (hi : i ≤ b.length) : Ev (fun k => spec_l4read.f k b (i : Int)) (readV b.length (rdNum 4 (b.drop i))) := by
  have key : ∀ (d j v p : Nat), j + d = 4 → ((j = 0 ∧ p = 1) ∨ (j = 1 ∧ p = 128) ∨ (j = 2 ∧ p = 16384) ∨ (j = 3 ∧ p = 2097152) ∨ j = 4) → v < p → Ev (fun k => spec_l4read.l0 k b (i : Int) (v : Int) (p : Int) (j : Int)) (readV b.length ((rdNum d (b.drop (i + j))).map fun q => (v + p * q.1, q.2))) := by
    intro d
    induction d with
    | zero =>
      intro j v p hj hp hv
      refine Ev.step (f := fun _ => some ((0 : Int), (-1 : Int))) (fun k => ?_) (Ev.now _)
      simp only [spec_l4read.l0]
      rw [if_neg (by omega)]
    | succ d ih =>
      intro j v p hj hp hv
      have HW := Aside0.mk (show wrap64 ((i : Int) + (j : Int)) = ((i + j : Nat) : Int) from by rw [wrap_in (by omega)]; omega)
      have hpb : p ≤ 2097152 := by omega
      have hp1 : ((j + 1 = 0 ∧ p * 128 = 1) ∨ (j + 1 = 1 ∧ p * 128 = 128) ∨ (j + 1 = 2 ∧ p * 128 = 16384) ∨ (j + 1 = 3 ∧ p * 128 = 2097152) ∨ j + 1 = 4) := by omega
      have HP1 := Aside0.mk hp1
      clear hp1
      clear hp
      by_cases hlt : i + j < b.length
      · rw [getD_drop b (i + j) hlt]
        obtain ⟨c0, c1⟩ := hb (b.getD (i + j) 0) (by rw [getD_get b (i + j) hlt]; exact List.getElem_mem hlt)
        have hrd : rd b ((i + j : Nat) : Int) = b.getD (i + j) 0 := rfl
        generalize b.getD (i + j) 0 = c at c0 c1 hrd ⊢
        have HC := Aside0.mk (show wrap64 c = c from wrap_in (by omega))
        obtain ⟨n, rfl⟩ : ∃ n : Nat, c = (n : Int) := ⟨c.toNat, by omega⟩
        have hm : n % 128 * p ≤ 127 * p := Nat.mul_le_mul_right _ (by omega)
        have hm' : Int.tmod (n : Int) 128 * (p : Int) = ((n % 128 * p : Nat) : Int) := by
          have : Int.tmod (n : Int) 128 = ((n % 128 : Nat) : Int) := rfl
          rw [this, ← Int.natCast_mul]
        have HV := Aside0.mk (show wrap64 ((v : Int) + wrap64 (Int.tmod (n : Int) 128 * (p : Int))) = ((v + n % 128 * p : Nat) : Int) from by
          rw [hm']
          generalize n % 128 * p = z at hm
          rw [wrap_in (x := (z : Int)) (by omega), wrap_in (by omega)]
          omega)
        clear hm'
        by_cases h128 : n < 128
        · have hz : (n : Int) < 128 := by omega
          have e : rdNum (d + 1) ((n : Int) :: b.drop (i + j + 1)) = some (n, b.drop (i + j + 1)) := by
            show (if (n : Int) < 128 then _ else _) = _
            rw [if_pos hz, Int.toNat_natCast]
          rw [e]
          refine Ev.step (f := fun _ => some (((v + n % 128 * p : Nat) : Int), ((i + j + 1 : Nat) : Int))) (fun k => ?_) ?_
          · simp only [spec_l4read.l0]
            rw [HW.out, if_pos (by omega), if_neg (by omega), if_pos (by omega), if_pos (by omega), hrd, HC.out, if_pos hz, HV.out, wrap_succ (i + j) (by omega)]
          · have e2 : readV b.length ((some (n, b.drop (i + j + 1))).map fun q => (v + p * q.1, q.2)) = (((v + n % 128 * p : Nat) : Int), ((i + j + 1 : Nat) : Int)) := by
              unfold readV
              simp only [Option.map_some, List.length_drop]
              have hsub : b.length - (b.length - (i + j + 1)) = i + j + 1 := by omega
              rw [Nat.mod_eq_of_lt h128, Nat.mul_comm n, hsub]
            rw [e2]
            exact Ev.now _
        · have hz : ¬ (n : Int) < 128 := by omega
          have e : rdNum (d + 1) ((n : Int) :: b.drop (i + j + 1)) = (rdNum d (b.drop (i + j + 1))).map fun q => (n % 128 + 128 * q.1, q.2) := by
            show (if (n : Int) < 128 then _ else _) = _
            rw [if_neg hz, Int.toNat_natCast]
          have e2 : ((rdNum (d + 1) ((n : Int) :: b.drop (i + j + 1))).map fun q => (v + p * q.1, q.2)) = (rdNum d (b.drop (i + (j + 1)))).map fun q => ((v + n % 128 * p) + (p * 128) * q.1, q.2) := by
            rw [e, Option.map_map, Nat.add_assoc i j 1]
            refine congrArg (fun f => Option.map f _) (funext fun q => ?_)
            simp only [Function.comp]
            rw [Nat.mul_add, ← Nat.mul_assoc, Nat.mul_comm (n % 128), Nat.add_assoc]
          rw [e2]
          have hlt2 : v + n % 128 * p < p * 128 := by
            generalize n % 128 * p = z at hm
            omega
          refine Ev.step (fun k => ?_) (ih (j + 1) (v + n % 128 * p) (p * 128) (by omega) HP1.out hlt2)
          simp only [spec_l4read.l0]
          rw [HW.out, if_pos (by omega), if_neg (by omega), if_pos (by omega), if_pos (by omega), hrd, HC.out, if_neg hz, HV.out, wrap_succ j (by omega)]
          rw [wrap_in (x := (p : Int) * 128) (by omega)]
          rfl
      · have e : b.drop (i + j) = [] := List.drop_of_length_le (by omega)
        rw [e]
        refine Ev.step (f := fun _ => some ((0 : Int), (-1 : Int))) (fun k => ?_) (Ev.now _)
        simp only [spec_l4read.l0]
        rw [HW.out, if_pos (by omega), if_pos (by omega)]
  have h := key 4 0 0 1 rfl (.inl ⟨rfl, rfl⟩) (by decide)
  have e : ((rdNum 4 (b.drop (i + 0))).map fun q => (0 + 1 * q.1, q.2)) = rdNum 4 (b.drop i) := by
    rw [Nat.add_zero]
    cases rdNum 4 (b.drop i) with
    | none => rfl
    | some q => simp
  rw [e] at h
  exact Ev.congr (fun k => by simp only [spec_l4read.f]; rfl) h
def linesV (base : Int) (acc : List (List Int)) (o : Option (List (List Int) × List Int)) : Int × List (List Int) × Bool := match o with
  | some q => (base, acc ++ q.1, true)
  | none => (0, [], false)
theorem lines_ev (b : List Int) (hb : ∀ x ∈ b, 0 ≤ x ∧ x ≤ 255) (hl : b.length ≤ 1048576) : Ev (fun k => spec_l4lines.f k b) (match specP b with | some q => (q.1, q.2, true) | none => (0, [], false)) := by
  have L0 : ∀ (base : Int) (n pos0 : Nat) (d j pos : Nat) (acc : List (List Int)), n ≤ 1000 → j + d = n → pos ≤ b.length → acc.length = j → Ev (fun k => spec_l4lines.l0 k b base (n : Int) (pos : Int) acc (j : Int)) (linesV base acc (rdLines 4 d (b.drop pos))) := by
    intro base n pos0 d
    induction d with
    | zero =>
      intro j pos acc hn hj hp ha
      refine Ev.step (f := fun _ => some (base, acc, true)) (fun k => ?_) (by unfold linesV rdLines; simp only [List.append_nil]; exact Ev.now _)
      simp only [spec_l4lines.l0]
      rw [if_neg (by omega)]
    | succ d ih =>
      intro j pos acc hn hj hp ha
      have hr := read_ev b pos hb hl hp
      have e : rdLines 4 (d + 1) (b.drop pos) = (rdLine 4 (b.drop pos)).bind fun q => (rdLines 4 d q.2).map fun p => (q.1 :: p.1, p.2) := rfl
      rw [e]
      unfold rdLine
      have hs : ∀ k : Nat, spec_l4lines.l0 (k + 1) b base (n : Int) (pos : Int) acc (j : Int) = _ := fun k => by
        simp only [spec_l4lines.l0]
        rw [if_pos (by omega)]
      refine Ev.step hs (Ev.bind hr ?_)
      cases hq : rdNum 4 (b.drop pos) with
      | none =>
        have e1 : readV b.length (none : Option (Nat × List Int)) = (0, -1) := rfl
        rw [e1]
        refine Ev.congr (f := fun _ => some _) (fun k => ?_) (Ev.now _)
        rw [if_pos (by decide)]
        rfl
      | some q =>
        obtain ⟨m, r⟩ := q
        obtain ⟨q1, mm, q2, q3, q4, q5⟩ := rdNum_some 4 (b.drop pos) m r (bytes_drop hb pos) hq
        rw [List.length_drop] at q4
        rw [List.drop_drop] at q5
        have hlr : r.length = b.length - (pos + mm) := by rw [q5, List.length_drop]
        have hm4 : m < 268435456 := Nat.lt_of_lt_of_le q1 (by decide)
        clear q1
        have e1 : readV b.length (some (m, r)) = ((m : Int), ((pos + mm : Nat) : Int)) := by
          have hsub : b.length - r.length = pos + mm := by omega
          unfold readV
          simp only
          rw [hsub]
        rw [e1]
        have HW1 := Aside0.mk (show wrap64 ((b.length : Int) - ((pos + mm : Nat) : Int)) = ((b.length - (pos + mm) : Nat) : Int) from by rw [wrap_in (by omega)]; omega)
        have HW2 := Aside0.mk (show wrap64 (((pos + mm : Nat) : Int) + (m : Int)) = ((pos + mm + m : Nat) : Int) from by rw [wrap_in (by omega)]; omega)
        by_cases hm : m ≤ r.length
        · have hR : ((some (m, r)).bind fun q => if q.1 ≤ q.2.length then some (q.2.take q.1, q.2.drop q.1) else none) = some (r.take m, b.drop (pos + mm + m)) := by
            rw [Option.bind_some]
            simp only
            rw [if_pos hm, q5, List.drop_drop]
          rw [hR]
          have hnext := ih (j + 1) (pos + mm + m) (acc ++ [r.take m]) hn (by omega) (by omega) (by simp [ha])
          have hV : linesV base acc ((some (r.take m, b.drop (pos + mm + m))).bind fun q => (rdLines 4 d q.2).map fun p => (q.1 :: p.1, p.2)) = linesV base (acc ++ [r.take m]) (rdLines 4 d (b.drop (pos + mm + m))) := by
            rw [Option.bind_some]
            cases rdLines 4 d (b.drop (pos + mm + m)) with
            | none => rfl
            | some p => unfold linesV; simp
          rw [hV]
          have hcut : (b.take (pos + mm + m)).drop (pos + mm) = r.take m := by
            rw [List.drop_take, q5]
            congr 1
            omega
          refine Ev.congr (fun k => ?_) hnext
          simp only
          rw [if_neg (by omega), HW1.out, HW2.out, if_neg (by omega), if_pos (by omega), if_pos (by omega), if_pos (by omega), Int.toNat_natCast, Int.toNat_natCast, hcut, if_pos (by simp only [List.length_nil, List.length_take]; omega), if_pos (by omega), List.nil_append, wrap_succ j (by omega)]
        · have hR : ((some (m, r)).bind fun q => if q.1 ≤ q.2.length then some (q.2.take q.1, q.2.drop q.1) else none) = none := by
            rw [Option.bind_some]
            simp only
            rw [if_neg hm]
          rw [hR]
          refine Ev.congr (f := fun _ => some _) (fun k => ?_) (Ev.now _)
          simp only
          rw [if_neg (by omega), HW1.out, if_pos (by omega)]
          rfl
  by_cases h2 : b.length < 2
  · have e : specP b = none := by unfold specP; rw [if_pos h2]
    rw [e]
    refine Ev.congr (f := fun _ => some _) (fun k => ?_) (Ev.now _)
    simp only [spec_l4lines.f]
    rw [if_pos (by omega)]
  · have e : specP b = rdHead 4 (b.drop 2) := by unfold specP; rw [if_neg h2]
    rw [e]
    unfold rdHead
    have hr := read_ev b 2 hb hl (by omega)
    refine Ev.congr (f := fun k => (spec_l4read.f k b ((2 : Nat) : Int)).bind fun bt447 => (if bt447.2 < 0 then (some (0, ([] : List (List Int)), false)) else ((spec_l4read.f k b bt447.2).bind fun bt449 => (if bt449.2 < 0 then (spec_l4lines.j0 k b bt447.1 bt449.1 bt449.2 true) else (spec_l4lines.j0 k b bt447.1 bt449.1 bt449.2 (decide (bt449.1 > 1000))))))) (fun k => by simp only [spec_l4lines.f]; rw [if_neg (by omega)]; rfl) (Ev.bind hr ?_)
    cases hq : rdNum 4 (b.drop 2) with
    | none =>
      refine Ev.congr (f := fun _ => some _) (fun k => ?_) (Ev.now _)
      have e1 : readV b.length (none : Option (Nat × List Int)) = (0, -1) := rfl
      rw [e1, if_pos (by decide)]
      rfl
    | some q =>
      obtain ⟨m, r⟩ := q
      obtain ⟨q1, mm, q2, q3, q4, q5⟩ := rdNum_some 4 (b.drop 2) m r (bytes_drop hb 2) hq
      rw [List.length_drop] at q4
      rw [List.drop_drop] at q5
      have hlr : r.length = b.length - (2 + mm) := by rw [q5, List.length_drop]
      have e1 : readV b.length (some (m, r)) = ((m : Int), ((2 + mm : Nat) : Int)) := by
        have hsub : b.length - r.length = 2 + mm := by omega
        unfold readV
        simp only
        rw [hsub]
      rw [e1, Option.bind_some]
      simp only
      have hr2 := read_ev b (2 + mm) hb hl (by omega)
      rw [← q5] at hr2
      refine Ev.congr (f := fun k => (spec_l4read.f k b ((2 + mm : Nat) : Int)).bind fun bt449 => (if bt449.2 < 0 then (spec_l4lines.j0 k b (m : Int) bt449.1 bt449.2 true) else (spec_l4lines.j0 k b (m : Int) bt449.1 bt449.2 (decide (bt449.1 > 1000))))) (fun k => by rw [if_neg (by omega)]) (Ev.bind hr2 ?_)
      have J0t : ∀ (x y z : Int), Ev (fun k => spec_l4lines.j0 k b x y z true) (0, [], false) := fun x y z => by
        refine Ev.step (f := fun _ => some _) (fun k => ?_) (Ev.now _)
        simp only [spec_l4lines.j0]
        rw [if_pos trivial]
      cases hq2 : rdNum 4 r with
      | none =>
        have e2 : readV b.length (none : Option (Nat × List Int)) = (0, -1) := rfl
        rw [e2]
        exact Ev.congr (fun k => if_pos (by decide)) (J0t _ _ _)
      | some p =>
        obtain ⟨n, r2⟩ := p
        obtain ⟨p1, m2, p2, p3, p4, p5⟩ := rdNum_some 4 r n r2 (by rw [q5]; exact bytes_drop hb _) hq2
        have p5' : r2 = b.drop (2 + mm + m2) := by rw [p5, q5, List.drop_drop]
        have hlr2 : r2.length = b.length - (2 + mm + m2) := by rw [p5', List.length_drop]
        have e2 : readV b.length (some (n, r2)) = ((n : Int), ((2 + mm + m2 : Nat) : Int)) := by
          have hsub : b.length - r2.length = 2 + mm + m2 := by omega
          unfold readV
          simp only
          rw [hsub]
        rw [e2, Option.bind_some]
        simp only
        by_cases hn : n ≤ 1000
        · rw [if_pos hn]
          have h0 := L0 (m : Int) n 0 n 0 (2 + mm + m2) [] hn (by omega) (by omega) rfl
          rw [← p5'] at h0
          refine Ev.congr (f := fun k => spec_l4lines.j0 k b (m : Int) (n : Int) ((2 + mm + m2 : Nat) : Int) false) (fun k => by rw [if_neg (by omega), decide_eq_false (by omega)]) (Ev.step (fun k => ?_) (f := fun k => spec_l4lines.l0 k b (m : Int) (n : Int) ((2 + mm + m2 : Nat) : Int) [] ((0 : Nat) : Int)) ?_)
          · simp only [spec_l4lines.j0]
            rw [if_neg (by simp)]
            rfl
          · cases hl3 : rdLines 4 n r2 with
            | none => rw [hl3] at h0; exact h0
            | some l => rw [hl3] at h0; exact h0
        · rw [if_neg hn]
          exact Ev.congr (fun k => by rw [if_neg (by omega), decide_eq_true (by omega)]) (J0t _ _ _)
theorem bytesOf_inj : ∀ (x y : List Int), (∀ v ∈ x, 0 ≤ v ∧ v ≤ 255) → (∀ v ∈ y, 0 ≤ v ∧ v ≤ 255) → Go.Lib.bytesOf x = Go.Lib.bytesOf y → x = y := by
  intro x
  induction x with
  | nil =>
    intro y _ _ h
    cases y with
    | nil => rfl
    | cons b t => cases h
  | cons a s ih =>
    intro y hx hy h
    cases y with
    | nil => cases h
    | cons b t =>
      have h' : UInt8.ofNat a.toNat :: Go.Lib.bytesOf s = UInt8.ofNat b.toNat :: Go.Lib.bytesOf t := h
      injection h' with h1 h2
      have ha := hx a (List.mem_cons_self ..)
      have hb := hy b (List.mem_cons_self ..)
      have h3 := congrArg UInt8.toNat h1
      rw [UInt8.toNat_ofNat', UInt8.toNat_ofNat'] at h3
      have : a = b := by omega
      rw [this, ih t (fun v hv => hx v (List.mem_cons_of_mem _ hv)) (fun v hv => hy v (List.mem_cons_of_mem _ hv)) h2]
theorem same_bytes (x y : List Int) (hx : ∀ v ∈ x, 0 ≤ v ∧ v ≤ 255) (hy : ∀ v ∈ y, 0 ≤ v ∧ v ≤ 255) : ((strOfNums x).toList == (strOfNums y).toList) = decide (x = y) := by
  rw [Go.Lib.strOfNums_toList, Go.Lib.strOfNums_toList]
  by_cases h : x = y
  · rw [decide_eq_true h, h]
    simp
  · rw [decide_eq_false h, beq_eq_false_iff_ne]
    exact fun e => h (bytesOf_inj x y hx hy e)
end Go.Proofs.Ytmgmdnmfalepkaa.PDec

namespace Go.Proofs.Ytmgmdnmfalepkaa.SegS
open Go.RowKit Go.Proofs.YtmgmdnmfalepkaaW.PrintWords Go.Proofs.YtmgmdnmfalepkaaW.PrintMore Go.Proofs.Ytmgmdnmfalepkaa.Kit Go.Proofs.Ytmgmdnmfalepkaa.PKit Go.Proofs.Ytmgmdnmfalepkaa.Ty Go.Proofs.Ytmgmdnmfalepkaa.PSeg Go.Proofs.Ytmgmdnmfalepkaa.PEnc Go.Proofs.Ytmgmdnmfalepkaa.PDec Go.Proofs.Ytmgmdnmfalepkaa.PSta Go.Proofs.Ytmgmdnmfalepkaa.HelpBB Go.Proofs.Ytmgmdnmfalepkaa.HelpSeg
open Go.Proofs.Ytmgmdnmfalepkaa.Build hiding code ans
open Go.Proofs.Ytmgmdnmfalepkaa.Sto
set_option linter.unusedVariables false
set_option linter.unusedSimpArgs false
theorem below_of_drawn {w w' : World} (h : Drawn0 w w') : Below w.heap.size w w' := by first | exact h.below | exact pw_grow (by first | exact h | exact h.below)
theorem mk_M {w : World} {base : Nat} {b : Int} {ls : List (List Int)} {A1 A2 A3 : Option Addr} {c1 c2 c3 : Nat} (h1 : HelpBB.tBB.M w base (fun _ => True) ls (.slice A1 ls.length c1)) (h2 : HelpI.tI.M w base (fun _ => True) (keys ls) (.slice A2 (keys ls).length c2)) (h3 : HelpII.tII.M w base (fun _ => True) ((keys ls).map (post b ls ls.length)) (.slice A3 (keys ls).length c3)) :
    kSeg.M w base (fun _ => True) (seg b ls) [.int .i64 b, .slice A1 ls.length c1, .slice A2 (keys ls).length c2, .slice A3 (keys ls).length c3] :=
  ⟨[_], [_, _, _], rfl, rfl, [_], [_, _], rfl, ⟨_, rfl, Kd.S_R h1⟩, [_], [_], rfl, ⟨_, rfl, h2⟩, ⟨_, rfl, Kd.S_R h3⟩⟩
theorem zero_M (w : World) (base : Nat) : kSeg.M w base (fun _ => True) (0, [], [], []) [.int .i64 0, .slice none 0 0, .slice none 0 0, .slice none 0 0] :=
  ⟨[_], [_, _, _], rfl, rfl, [_], [_, _], rfl, ⟨_, rfl, Kd.R_nil _ _ _ _ _⟩, [_], [_], rfl, ⟨_, rfl, Kd.R_nil _ _ _ _ _⟩, ⟨_, rfl, Kd.R_nil _ _ _ _ _⟩⟩
theorem bld_good (b : Int) (A : Option Addr) (n c : Nat) (ls : List (List Int)) (hn : n = ls.length) (w : World) (hr : Kd.C kB w A ls.length ls) (hc : ls.length ≤ c) (hb : Bytes ls) (hs : smallBB ls) (hf : fits b ls = true) :
    Calls Try.prog 92 #[.int .i64 b, .slice A n c] w fun e w' => ∃ (B1 : Option Addr) (d1 : Nat) (B2 : Option Addr) (d2 : Nat) (B3 : Option Addr) (d3 : Nat), e = .returned (.agg #[.int .i64 b, .slice B1 n d1, .slice B2 (keys ls).length d2, .slice B3 (keys ls).length d3]) ∧ kSeg.M w' w.heap.size (fun _ => True) (seg b ls) [.int .i64 b, .slice B1 n d1, .slice B2 (keys ls).length d2, .slice B3 (keys ls).length d3] ∧ Grew w w' := by
  obtain ⟨f1, f2, f3, f4, f5, f6⟩ := fits_parts hf
  refine (Bld.bld_calls b A n c ls hn w hr hc hb hs f1 f2 (by omega)).mono ?_
  subst hn
  rintro e w' ⟨A1, c1, A2, c2, A3, c3, rfl, m1, m2, m3, hg⟩
  exact ⟨A1, c1, A2, c2, A3, c3, rfl, mk_M m1 m2 m3, hg⟩
theorem encS_calls (s : SegT) (B1 B2 B3 : Option Addr) (d1 d2 d3 n1 n2 n3 : Nat) (h1 : n1 = s.2.1.length) (h2 : n2 = s.2.2.1.length) (h3 : n3 = s.2.2.2.length) (W : World) (h : kSeg.K W s [.int .i64 s.1, .slice B1 n1 d1, .slice B2 n2 d2, .slice B3 n3 d3]) (hG : Sto.Good s) :
    Calls Try.prog 102 #[.agg #[.int .i64 s.1, .slice B1 n1 d1, .slice B2 n2 d2, .slice B3 n3 d3]] W fun e w' => ∃ v', e = .returned v' ∧ Kd.R (Kd.int .u8) 5 w' W.heap.size (fun _ => True) v' (code s) ∧ Grew W w' := by
  subst h1 h2 h3
  obtain ⟨b, ls, K, Ps⟩ := s
  obtain ⟨g1, g2, g3⟩ := hG
  obtain ⟨_, _, e0, hk0, ⟨_, _, e1, ⟨A1, c1, e11, l1, q1⟩, ⟨_, _, e2, ⟨A2, c2, e22, l2, q2⟩, ⟨A3, c3, e33, l3, q3⟩⟩⟩⟩ := h
  subst e11 e22 e33 e2 e1
  cases hk0
  simp only [List.cons_append, List.nil_append, List.cons.injEq, Value.slice.injEq, true_and, and_true] at e0
  obtain ⟨⟨rfl, rfl⟩, ⟨rfl, rfl⟩, rfl, rfl⟩ := e0
  have hok : EncOk (b, ls, K, Ps) := by
    have g1' : (b, ls, K, Ps) = seg b ls := g1
    rw [g1']
    exact encOk_seg g2 g3
  obtain ⟨k, hk⟩ := (encode_ev (b, ls, K, Ps) hok g3).rounds
  exact L.spec_l4encode.calls k b B1 d1 ls B2 d2 K B3 d3 Ps _ W q1 l1 q2 l2 q3 l3 hk
set_option maxRecDepth 100000 in
set_option maxHeartbeats 8000000 in
theorem decS_calls (A : Option Addr) (c : Nat) (b : List Int) (w : World) (hr : Kd.C (Kd.int .u8) w A b.length b) (hc : b.length ≤ c) (hb : ∀ x ∈ b, 0 ≤ x ∧ x ≤ 255) (hl : b.length ≤ 1048576) :
    Calls Try.prog 44 #[.slice A b.length c] w fun e w' => ∃ (B1 : Option Addr) (d1 : Nat) (B2 : Option Addr) (d2 : Nat) (B3 : Option Addr) (d3 : Nat), e = .returned (.tuple #[.agg #[.int .i64 (dec b).1.1, .slice B1 (dec b).1.2.1.length d1, .slice B2 (dec b).1.2.2.1.length d2, .slice B3 (dec b).1.2.2.2.length d3], .int .i64 (dec b).2]) ∧ kSeg.M w' w.heap.size (fun _ => True) (dec b).1 [.int .i64 (dec b).1.1, .slice B1 (dec b).1.2.1.length d1, .slice B2 (dec b).1.2.2.1.length d2, .slice B3 (dec b).1.2.2.2.length d3] ∧ Grew w w' := by
  have huI := Try.underlying50
  have HR := Aside0.mk hr
  have HC := Aside0.mk hc
  have HY := Aside0.mk hb
  obtain ⟨kl, hkl⟩ := (lines_ev b hb hl).rounds
  clear hr hc hb
  cases hP : specP b with
  | none =>
    rw [hP] at hkl
    have HL := Aside0.mk (fun (W : World) (hW : Below w.heap.size w W) => L.spec_l4lines.calls kl A c b _ _ _ W (Kd.C_below HR.out hW) HC.out hkl)
    have HP := Aside0.mk hP
    clear hP hkl
    go_enter Try.func44, Try.ntmps44
    go_wp2_with (((with_reducible refine gate_dst (N := 2) rfl ?_); refine box_event ?hg (N := 2) ?hd (cs := #[.int .i64 0, .slice none 0 0, .slice none 0 0, .slice none 0 0]) (t := 50) ?hr ?_; (case hd => rfl); (case hg => rfl); (case hr => first | (go_simp; done) | (go_simp; rfl)); intro gr hg_ w1 hbx hbb; have BKgr := Aside0.mk hbx; have GEgr := Aside0.mk (show w.heap.size ≤ gr from Nat.le_of_eq hg_.symm); have GLgr := Aside0.mk (blk_lt hbx); have HBw1 := Aside0.mk hbb; clear hg_ hbb; obtain ⟨⟨hgrc0, hgrf0⟩, ⟨hgrc1, hgrf1⟩, ⟨hgrc2, hgrf2⟩, ⟨hgrc3, hgrf3⟩⟩ := cells4 hbx; clear hbx))
    go_at_call 100
    refine (HL.out _ HBw1.out).mono ?_
    rintro e w2 ⟨v2, rfl, hS2, hb2⟩
    obtain ⟨A1, c1, rfl⟩ := Kd.S_slice hS2
    have BK2 := Aside0.mk (blk_below BKgr.out hb2)
    have HB2 := Aside0.mk (show Below w.heap.size w w2 from grew_trans HBw1.out hb2)
    obtain ⟨⟨s0, sf0⟩, ⟨s1, sf1⟩, ⟨s2, sf2⟩, ⟨s3, sf3⟩⟩ := cells4 BK2.out
    clear hS2 hb2
    go_wp2
    refine bodyPost_ret (results_ct rfl _ _ gr 50 #[.int .i64 0, .slice none 0 0, .slice none 0 0, .slice none 0 0] (0, 0) _ rfl (by (with_reducible repeat (first | refine blk_drewN ?_ _ | refine blk_drew ?_ | refine blk_alloc ?_ _)); refine blk_put (cs := #[.int .i64 0, .slice none 0 0, .slice none 0 0, .slice none 0 0]) ?_ 3 _ rfl; (with_reducible repeat (first | refine blk_drewN ?_ _ | refine blk_drew ?_ | refine blk_alloc ?_ _)); refine blk_put (cs := #[.int .i64 0, .slice none 0 0, .slice none 0 0, .slice none 0 0]) ?_ 2 _ rfl; (with_reducible repeat (first | refine blk_drewN ?_ _ | refine blk_drew ?_ | refine blk_alloc ?_ _)); refine blk_put (cs := #[.int .i64 0, .slice none 0 0, .slice none 0 0, .slice none 0 0]) ?_ 1 _ rfl; (with_reducible repeat (first | refine blk_drewN ?_ _ | refine blk_drew ?_ | refine blk_alloc ?_ _)); refine blk_put (cs := #[.int .i64 0, .slice none 0 0, .slice none 0 0, .slice none 0 0]) ?_ 0 _ rfl; (with_reducible repeat (first | refine blk_drewN ?_ _ | refine blk_drew ?_ | refine blk_alloc ?_ _)); exact BK2.out) Try.underlying50 rfl (by kernel_rfl)) rfl ?_
    rw [show dec b = ((0, [], [], []), 5) from by rw [dec_spec]; unfold decBy; rw [HP.out]]
    exact ⟨none, 0, none, 0, none, 0, rfl, zero_M _ _, below_set (below_set (below_set (below_set (HB2.out) GEgr.out) GEgr.out) GEgr.out) GEgr.out⟩
  | some q =>
    obtain ⟨base, ls⟩ := q
    rw [hP] at hkl
    have HL := Aside0.mk (fun (W : World) (hW : Below w.heap.size w W) => L.spec_l4lines.calls kl A c b _ _ _ W (Kd.C_below HR.out hW) HC.out hkl)
    have hh : rdHead 4 (b.drop 2) = some (base, ls) := by
      unfold specP at hP
      by_cases h2 : b.length < 2
      · rw [if_pos h2] at hP; cases hP
      · rwa [if_neg h2] at hP
    obtain ⟨b0, b1, l1, l2, l3⟩ := rdHead_some 4 (b.drop 2) base ls (bytes_drop HY.out 2) hh
    rw [List.length_drop] at l2
    have hs : smallBB ls := by show ls.length + totalB ls ≤ 1048576; omega
    obtain ⟨kf, hkf⟩ := (fits_ev base ls hs).rounds
    have HP := Aside0.mk hP
    have HSM := Aside0.mk hs
    have HLY := Aside0.mk l3
    clear hP hkl hh b0 b1 l2 l3 hs
    go_enter Try.func44, Try.ntmps44
    go_wp2_with (((with_reducible refine gate_dst (N := 2) rfl ?_); refine box_event ?hg (N := 2) ?hd (cs := #[.int .i64 0, .slice none 0 0, .slice none 0 0, .slice none 0 0]) (t := 50) ?hr ?_; (case hd => rfl); (case hg => rfl); (case hr => first | (go_simp; done) | (go_simp; rfl)); intro gr hg_ w1 hbx hbb; have BKgr := Aside0.mk hbx; have GEgr := Aside0.mk (show w.heap.size ≤ gr from Nat.le_of_eq hg_.symm); have GLgr := Aside0.mk (blk_lt hbx); have HBw1 := Aside0.mk hbb; clear hg_ hbb; obtain ⟨⟨hgrc0, hgrf0⟩, ⟨hgrc1, hgrf1⟩, ⟨hgrc2, hgrf2⟩, ⟨hgrc3, hgrf3⟩⟩ := cells4 hbx; clear hbx))
    go_at_call 100
    refine (HL.out _ HBw1.out).mono ?_
    rintro e w2 ⟨v2, rfl, hS2, hb2⟩
    obtain ⟨A1, c1, rfl⟩ := Kd.S_slice hS2
    have BK2 := Aside0.mk (blk_below BKgr.out hb2)
    have HB2 := Aside0.mk (show Below w.heap.size w w2 from grew_trans HBw1.out hb2)
    have HGR := Aside0.mk (show gr < w2.heap.size from blk_lt BK2.out)
    obtain ⟨_, hc2, hC2⟩ := Kd.S_reads' hS2
    have HF := Aside0.mk (fun (W : World) (hW : Below w2.heap.size w2 W) => L.spec_l4fits.calls kf base A1 c1 ls _ W (Kd.C_below hC2 hW) hc2 hkf)
    have HC2 := Aside0.mk hC2
    have HCC := Aside0.mk hc2
    clear hS2 hb2 hC2 hc2 hkf hgrc0 hgrf0 hgrc1 hgrf1 hgrc2 hgrf2 hgrc3 hgrf3
    cases hft : fits base ls with
    | false =>
      rw [hft] at HF
      have HFT := Aside0.mk hft
      clear hft
      go_wp2_with (go_at_call 91; refine (HF.out _ (by repeat (first | exact Below.refl _ _ | apply below_alloc | apply below_drew1 | apply pw_below_drewN))).mono ?_; rintro e w3 ⟨rfl, hd3⟩; have HB3 := Aside0.mk (grew_trans HB2.out (grew_trans (by repeat (first | exact Below.refl _ _ | apply below_alloc | apply below_drew1 | apply pw_below_drewN)) (below_of_drawn hd3))); have BK3 := Aside0.mk (blk_below BK2.out (grew_trans (by repeat (first | exact Below.refl _ _ | apply below_alloc | apply below_drew1 | apply pw_below_drewN)) (below_of_drawn hd3))); obtain ⟨⟨s0, sf0⟩, ⟨s1, sf1⟩, ⟨s2, sf2⟩, ⟨s3, sf3⟩⟩ := cells4 BK3.out; clear hd3)
      refine bodyPost_ret (results_ct rfl _ _ gr 50 #[.int .i64 0, .slice none 0 0, .slice none 0 0, .slice none 0 0] (0, 0) _ rfl (by (with_reducible repeat (first | refine blk_drewN ?_ _ | refine blk_drew ?_ | refine blk_alloc ?_ _)); refine blk_put (cs := #[.int .i64 0, .slice none 0 0, .slice none 0 0, .slice none 0 0]) ?_ 3 _ rfl; (with_reducible repeat (first | refine blk_drewN ?_ _ | refine blk_drew ?_ | refine blk_alloc ?_ _)); refine blk_put (cs := #[.int .i64 0, .slice none 0 0, .slice none 0 0, .slice none 0 0]) ?_ 2 _ rfl; (with_reducible repeat (first | refine blk_drewN ?_ _ | refine blk_drew ?_ | refine blk_alloc ?_ _)); refine blk_put (cs := #[.int .i64 0, .slice none 0 0, .slice none 0 0, .slice none 0 0]) ?_ 1 _ rfl; (with_reducible repeat (first | refine blk_drewN ?_ _ | refine blk_drew ?_ | refine blk_alloc ?_ _)); refine blk_put (cs := #[.int .i64 0, .slice none 0 0, .slice none 0 0, .slice none 0 0]) ?_ 0 _ rfl; (with_reducible repeat (first | refine blk_drewN ?_ _ | refine blk_drew ?_ | refine blk_alloc ?_ _)); exact BK3.out) Try.underlying50 rfl (by kernel_rfl)) rfl ?_
      rw [show dec b = ((0, [], [], []), 5) from by rw [dec_spec]; unfold decBy; rw [HP.out]; simp only; rw [HFT.out]; rfl]
      exact ⟨none, 0, none, 0, none, 0, rfl, zero_M _ _, below_set (below_set (below_set (below_set (HB3.out) GEgr.out) GEgr.out) GEgr.out) GEgr.out⟩
    | true =>
      rw [hft] at HF
      have HFT := Aside0.mk hft
      have HBL := Aside0.mk (fun (W : World) (hW : Below w2.heap.size w2 W) => bld_good base A1 ls.length c1 ls rfl W (Kd.C_below HC2.out hW) HCC.out HLY.out HSM.out hft)
      clear hft
      go_wp2_with (first | (go_at_call 91; refine (HF.out _ (by repeat (first | exact Below.refl _ _ | apply below_alloc | apply below_drew1 | apply pw_below_drewN))).mono ?_; rintro e w3 ⟨rfl, hd3⟩; have HB3 := Aside0.mk (show Below w2.heap.size w2 w3 from grew_trans (by repeat (first | exact Below.refl _ _ | apply below_alloc | apply below_drew1 | apply pw_below_drewN)) (below_of_drawn hd3)); clear hd3) | (go_at_call 92; refine (HBL.out _ HB3.out).mono ?_; rintro e w4 ⟨B1, d1, B2, d2, B3, d3, rfl, hM4, hb4⟩; have HB4 := Aside0.mk (show Below w2.heap.size w2 w4 from grew_trans HB3.out hb4); have HM4 := Aside0.mk (show kSeg.M w4 w2.heap.size (fun _ => True) (seg base ls) [.int .i64 base, .slice B1 ls.length d1, .slice B2 (keys ls).length d2, .slice B3 (keys ls).length d3] from kSeg.M_lower HB3.out.size hM4); obtain ⟨⟨x0, xf0⟩, ⟨x1, xf1⟩, ⟨x2, xf2⟩, ⟨x3, xf3⟩⟩ := cells4 (blk_new w4 (.cells #[.int .i64 base, .slice B1 ls.length d1, .slice B2 (keys ls).length d2, .slice B3 (keys ls).length d3] 50 (0, 0))); clear hM4 hb4))
      obtain ⟨gq, hgq⟩ : ∃ g_, g_ = w4.heap.size := ⟨_, rfl⟩
      obtain ⟨w5, hw5⟩ : ∃ w_, w_ = w4.alloc (.cells #[.int .i64 base, .slice B1 ls.length d1, .slice B2 (keys ls).length d2, .slice B3 (keys ls).length d3] 50 (0, 0)) := ⟨_, rfl⟩
      rw [← hw5, ← hgq] at x0 xf0 x1 xf1 x2 xf2 x3 xf3
      rw [← hw5, ← hgq]
      have BKgq := Aside0.mk (show w5.heap[gq]? = some (.cells #[.int .i64 base, .slice B1 ls.length d1, .slice B2 (keys ls).length d2, .slice B3 (keys ls).length d3] 50 (0, 0)) from by rw [hw5, hgq]; exact blk_new w4 _)
      have hb5 : Below w4.heap.size w4 w5 := by rw [hw5]; exact below_alloc (Below.refl _ _) _
      have HB5 := Aside0.mk (show Below w2.heap.size w2 w5 from grew_trans HB4.out hb5)
      have HM5 := Aside0.mk (Kd.M_below HM4.out hb5)
      clear hgq hw5 hb5
      have HEN := encS_calls (seg base ls) B1 B2 B3 d1 d2 d3 ls.length (keys ls).length (keys ls).length rfl rfl (List.length_map ..).symm w5 (kSeg.K_of_M HM5.out) ⟨rfl, HFT.out, HLY.out⟩
      go_at_call 102
      refine HEN.mono ?_
      rintro e w6 ⟨v6, rfl, hM6, hb6⟩
      obtain ⟨A6, c6, rfl⟩ := Kd.R_slice hM6
      have hsame := same_bytes (code (seg base ls)) b (code_bytes (s := seg base ls) HLY.out) HY.out
      obtain ⟨_, hc6, hC6⟩ := Kd.R_reads' hM6
      have HSB := Aside0.mk (fun (W : World) (hW : Below w6.heap.size w6 W) => L.spec_l4sameBytes.calls A6 c6 (code (seg base ls)) A c b (decide (code (seg base ls) = b)) W (Kd.C_below hC6 hW) hc6 (Kd.C_below HR.out (grew_trans HB2.out (grew_trans HB5.out (grew_trans hb6 hW)))) HC.out (by show some _ = some _; rw [hsame]))
      have HB6 := Aside0.mk (show Below w2.heap.size w2 w6 from grew_trans HB5.out hb6)
      have BK6 := Aside0.mk (blk_below BKgq.out hb6)
      have HM6 := Aside0.mk (Kd.M_below HM5.out hb6)
      have hcl : (code (seg base ls)).length ≤ 9223372036854775807 := hC6.2.1
      clear hM6 hb6 hC6 hc6 hsame HEN x0 xf0 x1 xf1 x2 xf2 x3 xf3
      by_cases hcd : code (seg base ls) = b
      case neg =>
        rw [decide_eq_false hcd] at HSB
        have HCD := Aside0.mk hcd
        clear hcd
        go_wp2_with (go_at_call 101; refine (HSB.out _ (by repeat (first | exact Below.refl _ _ | apply below_alloc | apply below_drew1 | apply pw_below_drewN))).mono ?_; rintro e w7 ⟨rfl, hd7⟩; have HB7 := Aside0.mk (show Below w2.heap.size w2 w7 from grew_trans HB6.out (grew_trans (by repeat (first | exact Below.refl _ _ | apply below_alloc | apply below_drew1 | apply pw_below_drewN)) (below_of_drawn hd7))); have BK7 := Aside0.mk (blk_below BK2.out HB7.out); obtain ⟨⟨s0, sf0⟩, ⟨s1, sf1⟩, ⟨s2, sf2⟩, ⟨s3, sf3⟩⟩ := cells4 BK7.out; clear hd7)
        refine bodyPost_ret (results_ct rfl _ _ gr 50 #[.int .i64 0, .slice none 0 0, .slice none 0 0, .slice none 0 0] (0, 0) _ rfl (by (with_reducible repeat (first | refine blk_drewN ?_ _ | refine blk_drew ?_ | refine blk_alloc ?_ _)); refine blk_put (cs := #[.int .i64 0, .slice none 0 0, .slice none 0 0, .slice none 0 0]) ?_ 3 _ rfl; (with_reducible repeat (first | refine blk_drewN ?_ _ | refine blk_drew ?_ | refine blk_alloc ?_ _)); refine blk_put (cs := #[.int .i64 0, .slice none 0 0, .slice none 0 0, .slice none 0 0]) ?_ 2 _ rfl; (with_reducible repeat (first | refine blk_drewN ?_ _ | refine blk_drew ?_ | refine blk_alloc ?_ _)); refine blk_put (cs := #[.int .i64 0, .slice none 0 0, .slice none 0 0, .slice none 0 0]) ?_ 1 _ rfl; (with_reducible repeat (first | refine blk_drewN ?_ _ | refine blk_drew ?_ | refine blk_alloc ?_ _)); refine blk_put (cs := #[.int .i64 0, .slice none 0 0, .slice none 0 0, .slice none 0 0]) ?_ 0 _ rfl; (with_reducible repeat (first | refine blk_drewN ?_ _ | refine blk_drew ?_ | refine blk_alloc ?_ _)); exact BK7.out) Try.underlying50 rfl (by kernel_rfl)) rfl ?_
        rw [show dec b = ((0, [], [], []), 5) from by rw [dec_spec]; unfold decBy; rw [HP.out]; simp only; rw [if_neg (fun h => HCD.out h.2)]]
        exact ⟨none, 0, none, 0, none, 0, rfl, zero_M _ _, below_set (below_set (below_set (below_set ((grew_trans HB2.out HB7.out)) GEgr.out) GEgr.out) GEgr.out) GEgr.out⟩
      case pos =>
        rw [decide_eq_true hcd] at HSB
        have HD := Aside0.mk (show dec b = (seg base ls, 0) from by rw [dec_spec]; unfold decBy; rw [HP.out]; simp only; rw [if_pos ⟨HFT.out, hcd⟩])
        clear hcd
        go_wp2_with (go_at_call 101; refine (HSB.out _ (by repeat (first | exact Below.refl _ _ | apply below_alloc | apply below_drew1 | apply pw_below_drewN))).mono ?_; rintro e w7 ⟨rfl, hd7⟩; have hb7_ := grew_trans (by repeat (first | exact Below.refl _ _ | apply below_alloc | apply below_drew1 | apply pw_below_drewN)) (below_of_drawn hd7); have HB7 := Aside0.mk (show Below w2.heap.size w2 w7 from grew_trans HB6.out hb7_); have HM7 := Aside0.mk (show kSeg.M w7 w2.heap.size (fun _ => True) (seg base ls) [.int .i64 base, .slice B1 ls.length d1, .slice B2 (keys ls).length d2, .slice B3 (keys ls).length d3] from Kd.M_below HM6.out hb7_); have BKq7 := Aside0.mk (blk_below BK6.out hb7_); have BK7 := Aside0.mk (blk_below BK2.out HB7.out); obtain ⟨⟨s0, sf0⟩, ⟨s1, sf1⟩, ⟨s2, sf2⟩, ⟨s3, sf3⟩⟩ := cells4 BK7.out; obtain ⟨⟨y0, yf0⟩, ⟨y1, yf1⟩, ⟨y2, yf2⟩, ⟨y3, yf3⟩⟩ := cells4 BKq7.out; clear hd7 hb7_)
        refine bodyPost_ret (results_ct rfl _ _ gr 50 #[.int .i64 base, .slice B1 ls.length d1, .slice B2 (keys ls).length d2, .slice B3 (keys ls).length d3] (0, 0) _ rfl (by (with_reducible repeat (first | refine blk_drewN ?_ _ | refine blk_drew ?_ | refine blk_alloc ?_ _)); refine blk_put (cs := #[.int .i64 base, .slice B1 ls.length d1, .slice B2 (keys ls).length d2, .slice none 0 0]) ?_ 3 _ rfl; (with_reducible repeat (first | refine blk_drewN ?_ _ | refine blk_drew ?_ | refine blk_alloc ?_ _)); refine blk_put (cs := #[.int .i64 base, .slice B1 ls.length d1, .slice none 0 0, .slice none 0 0]) ?_ 2 _ rfl; (with_reducible repeat (first | refine blk_drewN ?_ _ | refine blk_drew ?_ | refine blk_alloc ?_ _)); refine blk_put (cs := #[.int .i64 base, .slice none 0 0, .slice none 0 0, .slice none 0 0]) ?_ 1 _ rfl; (with_reducible repeat (first | refine blk_drewN ?_ _ | refine blk_drew ?_ | refine blk_alloc ?_ _)); refine blk_put (cs := #[.int .i64 0, .slice none 0 0, .slice none 0 0, .slice none 0 0]) ?_ 0 _ rfl; (with_reducible repeat (first | refine blk_drewN ?_ _ | refine blk_drew ?_ | refine blk_alloc ?_ _)); exact BK7.out) Try.underlying50 rfl (by kernel_rfl)) rfl ?_
        rw [HD.out]
        have e3 : (seg base ls).2.2.2.length = (keys ls).length := List.length_map ..
        refine ⟨B1, d1, B2, d2, B3, d3, by rw [e3]; rfl, ?_, below_set (below_set (below_set (below_set ((grew_trans HB2.out HB7.out)) GEgr.out) GEgr.out) GEgr.out) GEgr.out⟩
        rw [e3]
        exact kSeg.M_mono (fun _ _ => trivial) (Kd.M_far (d := kSeg) (Kd.M_far (d := kSeg) (Kd.M_far (d := kSeg) (Kd.M_far (d := kSeg) (kSeg.M_lower HB2.out.size (kSeg.M_mono (ok' := fun k => w2.heap.size ≤ k) (fun k hk => hk.2.1) (kSeg.M_bound HM7.out))) (p := ⟨_, 0, none⟩) (fun k hk => by show k ≠ gr; have h1 : w2.heap.size ≤ k := hk; have h2 := HGR.out; omega) _) (p := ⟨_, 1, none⟩) (fun k hk => by show k ≠ gr; have h1 : w2.heap.size ≤ k := hk; have h2 := HGR.out; omega) _) (p := ⟨_, 2, none⟩) (fun k hk => by show k ≠ gr; have h1 : w2.heap.size ≤ k := hk; have h2 := HGR.out; omega) _) (p := ⟨_, 3, none⟩) (fun k hk => by show k ≠ gr; have h1 : w2.heap.size ≤ k := hk; have h2 := HGR.out; omega) _)
end Go.Proofs.Ytmgmdnmfalepkaa.SegS

namespace Go.Proofs.Ytmgmdnmfalepkaa.PSta
open Go.RowKit Go.Proofs.YtmgmdnmfalepkaaW.PrintWords Go.Proofs.Ytmgmdnmfalepkaa.PKit Go.Proofs.Ytmgmdnmfalepkaa.PSeg Go.Proofs.Ytmgmdnmfalepkaa.PEnc Go.Proofs.Ytmgmdnmfalepkaa.PDec Go.Proofs.Ytmgmdnmfalepkaa.HelpBB
set_option linter.unusedVariables false
theorem chain_append {base : Int} {ss : List SegT} {bs : List (List Int)} (h : Chain base ss bs) (r : List (List Int)) : segsFrom base (bs ++ r) = (segsFrom (base + ((nlin ss : Nat) : Int)) r).map fun q => ss ++ q := by
  induction h with
  | nil base => simp [nlin]
  | @cons base s b ss bs h t ih =>
    obtain ⟨h1, h2, h3, h4, h5⟩ := h
    show (if (dec b).2 = 0 ∧ (dec b).1.1 = base then (segsFrom (base + ((dec b).1.2.1.length : Int)) (bs ++ r)).map fun q => (dec b).1 :: q else none) = _
    rw [h5, if_pos ⟨rfl, h1⟩, ih]
    have e : base + (s.2.1.length : Int) + ((nlin ss : Nat) : Int) = base + ((nlin (s :: ss) : Nat) : Int) := by
      show _ = base + ((s.2.1.length + nlin ss : Nat) : Int)
      omega
    show ((segsFrom (base + (s.2.1.length : Int) + ((nlin ss : Nat) : Int)) r).map fun q => ss ++ q).map (fun q => s :: q) = _
    rw [e]
    cases segsFrom (base + ((nlin (s :: ss) : Nat) : Int)) r <;> rfl
theorem chain_snoc {base : Int} {ss : List SegT} {bs : List (List Int)} (h : Chain base ss bs) {s : SegT} {b : List Int} (ha : At (base + ((nlin ss : Nat) : Int)) s b) : Chain base (ss ++ [s]) (bs ++ [b]) := by
  induction h with
  | nil base =>
    refine .cons ?_ (.nil _)
    have e : base + ((nlin ([] : List SegT) : Nat) : Int) = base := by simp [nlin]
    rw [e] at ha
    exact ha
  | @cons base s' b' ss bs h t ih =>
    refine .cons h (ih ?_)
    have e : base + ((nlin (s' :: ss) : Nat) : Int) = base + (s'.2.1.length : Int) + ((nlin ss : Nat) : Int) := by
      show base + ((s'.2.1.length + nlin ss : Nat) : Int) = _
      omega
    rw [e] at ha
    exact ha
theorem chain_bounds {base : Int} {ss : List SegT} {bs : List (List Int)} (h : Chain base ss bs) : (ss = [] ∨ base + ((nlin ss : Nat) : Int) ≤ 1000) ∧ (0 ≤ base ∨ ss = []) ∧ ss.length ≤ nlin ss ∧ tots ss ≤ 20000 * ss.length ∧ ∀ s ∈ ss, s = seg s.1 s.2.1 ∧ fits s.1 s.2.1 = true := by
  induction h with
  | nil base => exact ⟨.inl rfl, .inr rfl, by simp [nlin], by simp [tots], fun s hs => by cases hs⟩
  | @cons base s b ss bs h t ih =>
    obtain ⟨h1, h2, h3, h4, h5⟩ := h
    obtain ⟨i1, i2, i3, i4, i5⟩ := ih
    obtain ⟨f1, f2, f3, f4, f5, f6⟩ := fits_parts h2
    rw [h1] at f1 f4
    have el : nlin (s :: ss) = s.2.1.length + nlin ss := rfl
    have et : tots (s :: ss) = totalB s.2.1 + tots ss := rfl
    refine ⟨.inr ?_, .inl f1, by simp only [List.length_cons]; omega, by simp only [List.length_cons]; omega, ?_⟩
    · rw [el]
      rcases i1 with rfl | i1
      · simp [nlin]; omega
      · omega
    · intro s' hs'
      rcases List.mem_cons.1 hs' with rfl | hs'
      · exact ⟨h3, h2⟩
      · exact i5 s' hs'
theorem chain_len0 {ss : List SegT} {bs : List (List Int)} (h : Chain 0 ss bs) : nlin ss ≤ 1000 ∧ ss.length ≤ 1000 ∧ tots ss ≤ 20000000 := by
  obtain ⟨h1, _, h2, h3, _⟩ := chain_bounds h
  have h4 : nlin ss ≤ 1000 := by
    rcases h1 with rfl | h1
    · simp [nlin]
    · omega
  exact ⟨h4, by omega, by omega⟩
theorem take_get (bs : List (List Int)) (i : Nat) (hi : i < bs.length) : bs = bs.take i ++ bs.getD i [] :: bs.drop (i + 1) := by
  have h : bs.drop i = bs.getD i [] :: bs.drop (i + 1) := by rw [List.drop_eq_getElem_cons hi]; simp [List.getD, List.getElem?_eq_getElem hi]
  rw [← h, List.take_append_drop]
theorem segs_stop {st : StaT} {acc : List SegT} {i : Nat} (hc : Chain 0 acc (st.1.take i)) (hi : i < st.1.length) (hn : ¬ ((dec (st.1.getD i [])).2 = 0 ∧ (dec (st.1.getD i [])).1.1 = ((nlin acc : Nat) : Int))) : segsOf st = none := by
  have h : segsFrom 0 st.1 = none := by
    rw [take_get st.1 i hi, chain_append hc]
    have e : segsFrom (0 + ((nlin acc : Nat) : Int)) (st.1.getD i [] :: st.1.drop (i + 1)) = none := by
      show (if _ ∧ _ then _ else none) = none
      rw [if_neg (by rw [Int.zero_add]; exact hn)]
    rw [e]
    rfl
  unfold segsOf
  rw [h]
  rfl
theorem segs_next {st : StaT} {acc : List SegT} {i : Nat} (hc : Chain 0 acc (st.1.take i)) (hi : i < st.1.length) (h0 : (dec (st.1.getD i [])).2 = 0) (h1 : (dec (st.1.getD i [])).1.1 = ((nlin acc : Nat) : Int)) : Chain 0 (acc ++ [(dec (st.1.getD i [])).1]) (st.1.take (i + 1)) := by
  have h := dec_at h0
  rw [h1] at h
  have e : st.1.take (i + 1) = st.1.take i ++ [st.1.getD i []] := take_snoc st.1 i hi
  rw [e]
  exact chain_snoc hc (by rw [Int.zero_add]; exact h)
theorem segs_all {st : StaT} {acc : List SegT} (hc : Chain 0 acc st.1) : segsOf st = if plain st.2 = true ∧ nlin acc + st.2.length ≤ 1000 ∧ tots acc + totalB st.2 ≤ 20000 then some acc else none := by
  unfold segsOf
  rw [chain_segs hc]
  rfl
end Go.Proofs.Ytmgmdnmfalepkaa.PSta

namespace Go.Proofs.Ytmgmdnmfalepkaa.Far
open Go.RowKit Go.Proofs.YtmgmdnmfalepkaaW.PrintWords Go.Proofs.YtmgmdnmfalepkaaW.PrintMore Go.Proofs.Ytmgmdnmfalepkaa.Kit Go.Proofs.Ytmgmdnmfalepkaa.PKit Go.Proofs.Ytmgmdnmfalepkaa.Ty Go.Proofs.Ytmgmdnmfalepkaa.Build Go.Proofs.Ytmgmdnmfalepkaa.HelpBB
set_option linter.unusedVariables false
def far {α : Type} (d : Kd α) (w0 : World) : Kd α where
  sz := d.sz
  E := []
  K := fun _ x cs => d.K w0 x cs
  M := fun _ _ _ x cs => d.K w0 x cs
  K_len := fun h => d.K_len h
  K_one := fun h => d.K_one h
  K_below := fun _ h => h
  K_of_M := fun h => h
  M_mono := fun _ h => h
  M_bound := fun h => h
  M_move := fun _ h => h
  M_lower := fun _ h => h
theorem far_reads {α : Type} {d : Kd α} {w0 W : World} {A : Option Addr} {n : Nat} {xs : List α} (h : d.C w0 A n xs) (hb : Below w0.heap.size w0 W) : ReadsRow (d.K w0) d.sz W A n xs :=
  ReadsRow.imp_ h hb (fun _ _ h => h)
end Go.Proofs.Ytmgmdnmfalepkaa.Far
