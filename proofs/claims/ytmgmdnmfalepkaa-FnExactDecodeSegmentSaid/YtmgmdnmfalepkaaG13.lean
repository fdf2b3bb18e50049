/- Parts of the proof (see the row's own text): Ldec. -/
import Derived.Test.YtmgmdnmfalepkaaG4
import Derived.Test.YtmgmdnmfalepkaaG8
import Derived.Test.YtmgmdnmfalepkaaG9
import Derived.Test.YtmgmdnmfalepkaaG11
import Derived.Test.YtmgmdnmfalepkaaG12
namespace Go.Proofs.Ytmgmdnmfalepkaa.L
open Go.RowKit Go.Proofs.YtmgmdnmfalepkaaW.PrintWords Go.Proofs.YtmgmdnmfalepkaaW.PrintLast Go.Proofs.YtmgmdnmfalepkaaW.PrintMore
attribute [local go_sem] max2_int min2_int max_two min_two max_three min_three max_four min_four
set_option linter.unusedVariables false
set_option linter.unusedSimpArgs false
def spec_l4read.l0 : Nat → List Int → Int → Int → Int → Int → Option (Int × Int)
  | 0, _, _, _, _, _ => none
  | k + 1, x0, x1, x6, x7, x8 => if x8 < 4 then (if (wrap64 (x1 + x8)) ≥ (x0.length : Int) then (some (0, (-1))) else (if 0 ≤ (wrap64 (x1 + x8)) then (if (wrap64 (x1 + x8)) < (x0.length : Int) then (if (wrap64 (rd x0 (wrap64 (x1 + x8)))) < 128 then (some (wrap64 (x6 + (wrap64 ((Int.tmod (wrap64 (rd x0 (wrap64 (x1 + x8)))) 128) * x7))), wrap64 ((wrap64 (x1 + x8)) + 1))) else (spec_l4read.l0 k x0 x1 (wrap64 (x6 + (wrap64 ((Int.tmod (wrap64 (rd x0 (wrap64 (x1 + x8)))) 128) * x7)))) (wrap64 (x7 * 128)) (wrap64 (x8 + 1)))) else (none)) else (none))) else (some (0, (-1)))
def spec_l4read.f (k : Nat) (l0 : List Int) (a1 : Int) : Option (Int × Int) := spec_l4read.l0 k l0 a1 0 1 0
set_option maxHeartbeats 8000000 in
set_option maxRecDepth 100000 in
theorem spec_l4read.calls (k : Nat) (A0 : Option Addr) (c0 : Nat) (l0 : List Int) (a1 : Int) (r1 : Int) (r2 : Int) (w : World) (hr0 : Kd.C (Kd.int .u8) w A0 l0.length l0) (hc0 : l0.length ≤ c0) (h : spec_l4read.f k l0 a1 = some (r1, r2)) :
    Calls Try.prog 140 #[.slice A0 l0.length c0, .int .i64 a1] w fun e w' => e = .returned (.tuple #[.int .i64 r1, .int .i64 r2]) ∧ Drawn0 w w' := by
  have HR0 := Aside0.mk hr0
  have HC0 := Aside0.mk hc0
  clear hr0 hc0
  have H : (spec_l4read.l0 k l0 a1 0 1 0) = some (r1, r2) := h
  clear h
  have H' := Aside0.mk H
  clear H
  go_enter Try.func140, Try.ntmps140
  go_wp2
  go_loopg [6, 7, 8] k (fun kq v6 v7 v8 w' => ∃ (x6_1 : Int) (x7_1 : Int) (x8_1 : Int), v6 = .int .i64 x6_1 ∧ v7 = .int .i64 x7_1 ∧ v8 = .int .i64 x8_1 ∧ Aside0 (spec_l4read.l0 kq l0 a1 x6_1 x7_1 x8_1 = some (r1, r2)) ∧ Aside0 (kq ≤ k) ∧ Drawn0 w w')
  case atStart => exact ⟨(0), (1), (0), (by first | rfl | (simp; done) | (simp [*]; done)), (by first | rfl | (simp; done) | (simp [*]; done)), (by first | rfl | (simp; done) | (simp [*]; done)), H', ⟨Nat.le_refl _⟩, by repeat (first | exact Drawn0.refl _ | apply Drawn0.step)⟩
  case round =>
    clear H'
    try clear c1
    try clear p2
    obtain ⟨x6_1, x7_1, x8_1, rfl, rfl, rfl, HA, HK1, ⟨m1, rfl⟩⟩ := hrel
    cases gk with
    | zero => exact absurd HA.out (by simp [spec_l4read.l0])
    | succ k1 =>
      have H := HA.out
      clear HA
      simp only [spec_l4read.l0] at H
      by_cases c3 : x8_1 < 4
      · rw [if_pos c3] at H
        have c3b0 : decide (x8_1 < 4) = true := decide_eq_true c3
        clear c3
        by_cases c4 : (wrap64 (a1 + x8_1)) ≥ (l0.length : Int)
        · rw [if_pos c4] at H
          have c4b0 : decide ((l0.length : Int) ≤ (wrap64 (a1 + x8_1))) = true := decide_eq_true c4
          clear c4
          simp only [Option.some.injEq, Prod.mk.injEq] at H
          obtain ⟨rfl, rfl⟩ := H
          go_wp2
          go_ret2
          exact ⟨by first | rfl | (simp; done) | (simp [*]; done), by repeat (first | exact Drawn0.refl _ | apply Drawn0.step)⟩
        · rw [if_neg c4] at H
          have c4b0 : decide ((l0.length : Int) ≤ (wrap64 (a1 + x8_1))) = false := decide_eq_false c4
          clear c4
          obtain ⟨ji5, hji5⟩ : ∃ j_ : Int, (wrap64 (a1 + x8_1)) = j_ := ⟨_, rfl⟩
          replace H : (if 0 ≤ (ji5) then (if (ji5) < (l0.length : Int) then (if (wrap64 (rd l0 (ji5))) < 128 then (some (wrap64 (x6_1 + (wrap64 ((Int.tmod (wrap64 (rd l0 (ji5))) 128) * x7_1))), wrap64 ((ji5) + 1))) else (spec_l4read.l0 k1 l0 a1 (wrap64 (x6_1 + (wrap64 ((Int.tmod (wrap64 (rd l0 (ji5))) 128) * x7_1)))) (wrap64 (x7_1 * 128)) (wrap64 (x8_1 + 1)))) else (none)) else (none)) = some (r1, r2) := by first | (rw [hji5] at H; exact H) | (simp only [hji5] at H ⊢; exact H)
          (try rw [hji5] at c4b0)
          have hji5w : (IntKind.i64.wrap (a1 + x8_1)) = ji5 := (i64_w _).trans hji5
          by_cases c6 : 0 ≤ (ji5)
          · rw [if_pos c6] at H
            have c6b0 : decide (0 ≤ (ji5)) = true := decide_eq_true c6
            clear c6
            by_cases c7 : (ji5) < (l0.length : Int)
            · rw [if_pos c7] at H
              have c7b0 : decide ((ji5) < (l0.length : Int)) = true := decide_eq_true c7
              clear c7
              by_cases c8 : (wrap64 (rd l0 (ji5))) < 128
              · rw [if_pos c8] at H
                have c8b0 : decide ((wrap64 (rd l0 (ji5))) < 128) = true := decide_eq_true c8
                clear c8
                simp only [Option.some.injEq, Prod.mk.injEq] at H
                obtain ⟨rfl, rfl⟩ := H
                have p446 : 0 ≤ ((ji5) : Int) := of_decide_eq_true (by first | (with_reducible assumption) | assumption)
                have q446 : (ji5) < (l0.length : Int) := of_decide_eq_true (by first | (with_reducible assumption) | assumption)
                obtain ⟨ad446, e446, hx446_0⟩ := Kd.at_int HR0.out (ji5) p446 q446
                cases e446
                replace p446 := eq_true p446
                replace q446 := eq_true q446
                go_wp2
                go_ret2
                exact ⟨by first | rfl | (simp; done) | (simp only [← hji5] <;> (first | rfl | simp)) | (simp [*]; done), by repeat (first | exact Drawn0.refl _ | apply Drawn0.step)⟩
              · rw [if_neg c8] at H
                have c8b0 : decide ((wrap64 (rd l0 (ji5))) < 128) = false := decide_eq_false c8
                clear c8
                have H' := Aside0.mk H
                clear H
                have p446 : 0 ≤ ((ji5) : Int) := of_decide_eq_true (by first | (with_reducible assumption) | assumption)
                have q446 : (ji5) < (l0.length : Int) := of_decide_eq_true (by first | (with_reducible assumption) | assumption)
                obtain ⟨ad446, e446, hx446_0⟩ := Kd.at_int HR0.out (ji5) p446 q446
                cases e446
                replace p446 := eq_true p446
                replace q446 := eq_true q446
                go_wp2
                go_roundg k1
                case measure => have := HK1.out; omega
                case rel => exact ⟨(wrap64 (x6_1 + (wrap64 ((Int.tmod (wrap64 (rd l0 (ji5))) 128) * x7_1)))), (wrap64 (x7_1 * 128)), (wrap64 (x8_1 + 1)), (by first | rfl | (simp; done) | (simp only [← hji5] <;> (first | rfl | simp)) | (simp [*]; done)), (by first | rfl | (simp; done) | (simp [*]; done)), (by first | rfl | (simp; done) | (simp [*]; done)), H', ⟨by have := HK1.out; omega⟩, by repeat (first | exact Drawn0.refl _ | apply Drawn0.step)⟩
            · rw [if_neg c7] at H
              exact absurd H (by simp)
          · rw [if_neg c6] at H
            exact absurd H (by simp)
      · rw [if_neg c3] at H
        have c3b0 : decide (x8_1 < 4) = false := decide_eq_false c3
        clear c3
        simp only [Option.some.injEq, Prod.mk.injEq] at H
        obtain ⟨rfl, rfl⟩ := H
        go_wp2
        go_ret2
        exact ⟨by first | rfl | (simp; done) | (simp [*]; done), by repeat (first | exact Drawn0.refl _ | apply Drawn0.step)⟩
mutual
def spec_l4lines.j0 : Nat → List Int → Int → Int → Int → Bool → Option (Int × (List (List Int)) × Bool)
  | 0, _, _, _, _, _ => none
  | k + 1, x0, x5, x7, x8, x35 => if x35 = true then (some (0, ([] : List (List Int)), false)) else (spec_l4lines.l0 k x0 x5 x7 x8 ([] : List (List Int)) 0)
def spec_l4lines.l0 : Nat → List Int → Int → Int → Int → List (List Int) → Int → Option (Int × (List (List Int)) × Bool)
  | 0, _, _, _, _, _, _ => none
  | k + 1, x0, x5, x7, x8, x9, x10 => if x10 < x7 then ((spec_l4read.f k x0 x8).bind fun bt451 => (if bt451.2 < 0 then (some (0, ([] : List (List Int)), false)) else (if bt451.1 > (wrap64 ((x0.length : Int) - bt451.2)) then (some (0, ([] : List (List Int)), false)) else (if 0 ≤ bt451.2 then (if bt451.2 ≤ (wrap64 (bt451.2 + bt451.1)) then (if (wrap64 (bt451.2 + bt451.1)) ≤ (x0.length : Int) then (if ([] : List Int).length + ((x0.take ((wrap64 (bt451.2 + bt451.1)) : Int).toNat).drop (bt451.2 : Int).toNat).length < 140737488355328 then (if x9.length < 5864062014805 then (spec_l4lines.l0 k x0 x5 x7 (wrap64 (bt451.2 + bt451.1)) (x9 ++ [(([] : List Int) ++ ((x0.take ((wrap64 (bt451.2 + bt451.1)) : Int).toNat).drop (bt451.2 : Int).toNat))]) (wrap64 (x10 + 1))) else (none)) else (none)) else (none)) else (none)) else (none))))) else (some (x5, x9, true))
end
def spec_l4lines.f (k : Nat) (l0 : List Int) : Option (Int × (List (List Int)) × Bool) := if (l0.length : Int) < 2 then (some (0, ([] : List (List Int)), false)) else ((spec_l4read.f k l0 2).bind fun bt447 => (if bt447.2 < 0 then (some (0, ([] : List (List Int)), false)) else ((spec_l4read.f k l0 bt447.2).bind fun bt449 => (if bt449.2 < 0 then (spec_l4lines.j0 k l0 bt447.1 bt449.1 bt449.2 true) else (spec_l4lines.j0 k l0 bt447.1 bt449.1 bt449.2 (decide (bt449.1 > 1000)))))))
set_option maxHeartbeats 8000000 in
set_option maxRecDepth 100000 in
theorem spec_l4lines.calls (k : Nat) (A0 : Option Addr) (c0 : Nat) (l0 : List Int) (r1 : Int) (r2 : List (List Int)) (r3 : Bool) (w : World) (hr0 : Kd.C (Kd.int .u8) w A0 l0.length l0) (hc0 : l0.length ≤ c0) (h : spec_l4lines.f k l0 = some (r1, r2, r3)) :
    Calls Try.prog 100 #[.slice A0 l0.length c0] w fun e w' => ∃ v1_ : Value, e = .returned (.tuple #[.int .i64 r1, v1_, .bool r3]) ∧ Kd.S (Kd.slice 5 (Kd.int .u8)) 33 w' w.heap.size (fun _ => True) v1_ r2 ∧ Below w.heap.size w w' := by
  have HR0 := Aside0.mk hr0
  have HC0 := Aside0.mk hc0
  clear hr0 hc0
  have HB := Aside0.mk (Below.refl w.heap.size w)
  have H : (if (l0.length : Int) < 2 then (some (0, ([] : List (List Int)), false)) else ((spec_l4read.f k l0 2).bind fun bt447 => (if bt447.2 < 0 then (some (0, ([] : List (List Int)), false)) else ((spec_l4read.f k l0 bt447.2).bind fun bt449 => (if bt449.2 < 0 then (spec_l4lines.j0 k l0 bt447.1 bt449.1 bt449.2 true) else (spec_l4lines.j0 k l0 bt447.1 bt449.1 bt449.2 (decide (bt449.1 > 1000)))))))) = some (r1, r2, r3) := h
  clear h
  by_cases c2 : (l0.length : Int) < 2
  · rw [if_pos c2] at H
    have c2b0 : decide ((l0.length : Int) < 2) = true := decide_eq_true c2
    have c2b1 : decide (l0.length < 2) = true := decide_eq_true (by omega)
    clear c2
    simp only [Option.some.injEq, Prod.mk.injEq] at H
    obtain ⟨rfl, rfl, rfl⟩ := H
    go_enter Try.func100, Try.ntmps100
    go_wp2
    go_ret3
    exact ⟨_, by first | rfl | (simp [errW_none, errW_some] <;> rfl) | (simp [*, errW_none, errW_some] <;> rfl), by first | exact Kd.S_nil _ _ _ _ _ | exact Kd.N_nil _ _ _ _ _ | exact Kd.V_nil _ _ _ _ _ | exact Kd.Q_nil _ _ _ _ _ | exact Kd.R_nil _ _ _ _ _, by repeat (first | (with_reducible first | exact HB.out | apply below_alloc | apply pw_below_drewN | apply below_drew1) | exact HB.out)⟩
  · rw [if_neg c2] at H
    have c2b0 : decide ((l0.length : Int) < 2) = false := decide_eq_false c2
    have c2b1 : decide (l0.length < 2) = false := decide_eq_false (by omega)
    clear c2
    replace H := Option.bind_eq_some_iff.mp H
    obtain ⟨⟨t447, t448⟩, A30, H⟩ := H
    replace H : (if t448 < 0 then (some (0, ([] : List (List Int)), false)) else ((spec_l4read.f k l0 t448).bind fun bt449 => (if bt449.2 < 0 then (spec_l4lines.j0 k l0 t447 bt449.1 bt449.2 true) else (spec_l4lines.j0 k l0 t447 bt449.1 bt449.2 (decide (bt449.1 > 1000)))))) = some (r1, r2, r3) := H
    have A3 := Aside0.mk A30
    clear A30
    by_cases c4 : t448 < 0
    · rw [if_pos c4] at H
      have c4b0 : decide (t448 < 0) = true := decide_eq_true c4
      clear c4
      simp only [Option.some.injEq, Prod.mk.injEq] at H
      obtain ⟨rfl, rfl, rfl⟩ := H
      go_enter Try.func100, Try.ntmps100
      go_wp2_with (first | ((with_reducible refine gate_callee (f := 140) rfl ?_); refine goesL_ (some 19) rfl rfl Try.func140 (by kernel_rfl) rfl #[.slice A0 l0.length c0, .int .i64 2] rfl (by (try simp only [List.map_toArray, List.map_cons, List.map_nil]); first | done | rfl | (simp only [List.length_drop, List.length_take]; rfl)) ?_; (with_reducible refine (spec_l4read.calls k _ _ l0 2 t447 t448 _ ?side1 ?side2 A3.out).mono ?_); (case side1 => repeat (first | exact HR0.out | (with_reducible refine Kd.C_alloc ?_ _) | (with_reducible refine Kd.C_drewN ?_ _) | (with_reducible refine Kd.C_drew ?_))); (case side2 => exact HC0.out); rintro e w' ⟨rfl, ⟨nd, rfl⟩⟩; refine ⟨_, rfl, ?_⟩))
      go_ret3
      exact ⟨_, by first | rfl | (simp [errW_none, errW_some] <;> rfl) | (simp [*, errW_none, errW_some] <;> rfl), by first | exact Kd.S_nil _ _ _ _ _ | exact Kd.N_nil _ _ _ _ _ | exact Kd.V_nil _ _ _ _ _ | exact Kd.Q_nil _ _ _ _ _ | exact Kd.R_nil _ _ _ _ _, by repeat (first | (with_reducible first | exact HB.out | apply below_alloc | apply pw_below_drewN | apply below_drew1) | exact HB.out)⟩
    · rw [if_neg c4] at H
      have c4b0 : decide (t448 < 0) = false := decide_eq_false c4
      clear c4
      replace H := Option.bind_eq_some_iff.mp H
      obtain ⟨⟨t449, t450⟩, A50, H⟩ := H
      replace H : (if t450 < 0 then (spec_l4lines.j0 k l0 t447 t449 t450 true) else (spec_l4lines.j0 k l0 t447 t449 t450 (decide (t449 > 1000)))) = some (r1, r2, r3) := H
      have A5 := Aside0.mk A50
      clear A50
      have HC6 := Aside0.mk H
      clear H
      go_enter Try.func100, Try.ntmps100
      go_upto_region 7 with (first | ((with_reducible refine gate_callee (f := 140) rfl ?_); refine goesL_ (some 19) rfl rfl Try.func140 (by kernel_rfl) rfl #[.slice A0 l0.length c0, .int .i64 2] rfl (by (try simp only [List.map_toArray, List.map_cons, List.map_nil]); first | done | rfl | (simp only [List.length_drop, List.length_take]; rfl)) ?_; (with_reducible refine (spec_l4read.calls k _ _ l0 2 t447 t448 _ ?side1 ?side2 A3.out).mono ?_); (case side1 => repeat (first | exact HR0.out | (with_reducible refine Kd.C_alloc ?_ _) | (with_reducible refine Kd.C_drewN ?_ _) | (with_reducible refine Kd.C_drew ?_))); (case side2 => exact HC0.out); rintro e w' ⟨rfl, ⟨nd, rfl⟩⟩; refine ⟨_, rfl, ?_⟩) | ((with_reducible refine gate_callee (f := 140) rfl ?_); refine goesL_ (some 27) rfl rfl Try.func140 (by kernel_rfl) rfl #[.slice A0 l0.length c0, .int .i64 t448] rfl (by (try simp only [List.map_toArray, List.map_cons, List.map_nil]); first | done | rfl | (simp only [List.length_drop, List.length_take]; rfl)) ?_; (with_reducible refine (spec_l4read.calls k _ _ l0 t448 t449 t450 _ ?side1 ?side2 A5.out).mono ?_); (case side1 => repeat (first | exact HR0.out | (with_reducible refine Kd.C_alloc ?_ _) | (with_reducible refine Kd.C_drewN ?_ _) | (with_reducible refine Kd.C_drew ?_))); (case side2 => exact HC0.out); rintro e w' ⟨rfl, ⟨nd, rfl⟩⟩; refine ⟨_, rfl, ?_⟩))
      (try simp only [Act.put, List.setIfInBounds_toArray, List.set_cons_zero, List.set_cons_succ])
      go_cut [35] (fun v35 wc => ∃ (kq : Nat) (x35_5 : Bool), v35 = .bool x35_5 ∧ Aside0 (spec_l4lines.j0 kq l0 t447 t449 t450 x35_5 = some (r1, r2, r3)) ∧ Aside0 (kq ≤ k) ∧ Aside0 (Below w.heap.size w wc))
      case first =>
        have H := HC6.out
        clear HC6
        by_cases c7 : t450 < 0
        · rw [if_pos c7] at H
          have c7b0 : decide (t450 < 0) = true := decide_eq_true c7
          clear c7
          (first | rw [c7b0] | (simp only [i64_w, i32_w]; rw [c7b0]) | skip)
          have H' := Aside0.mk H
          clear H
          go_wp2
          go_meet
          case rel => exact ⟨_, (true), (by first | rfl | (simp; done) | (simp [*]; done)), H', ⟨by first | omega | exact Nat.le_refl _⟩, ⟨by repeat (first | (with_reducible first | exact HB.out | apply below_alloc | apply pw_below_drewN | apply below_drew1) | exact HB.out)⟩⟩
        · rw [if_neg c7] at H
          have c7b0 : decide (t450 < 0) = false := decide_eq_false c7
          clear c7
          (first | rw [c7b0] | (simp only [i64_w, i32_w]; rw [c7b0]) | skip)
          have H' := Aside0.mk H
          clear H
          go_wp2
          go_meet
          case rel => exact ⟨_, (decide (t449 > 1000)), (by first | rfl | (simp; done) | (simp [*]; done)), H', ⟨by first | omega | exact Nat.le_refl _⟩, ⟨by repeat (first | (with_reducible first | exact HB.out | apply below_alloc | apply pw_below_drewN | apply below_drew1) | exact HB.out)⟩⟩
      case rest =>
        clear HC6
        try clear c1
        try clear c2
        try clear c2b0
        try clear c2b1
        try clear p2
        try clear c4
        try clear c4b0
        try clear c7
        try clear c7b0
        obtain ⟨kq, x35_5, rfl, HA, HJ5, HB⟩ := hcut
        cases kq with
        | zero => exact absurd HA.out (by simp [spec_l4lines.j0])
        | succ kj5 =>
          have H := HA.out
          clear HA
          simp only [spec_l4lines.j0] at H
          by_cases c8 : x35_5 = true
          · subst c8
            have H1 : (some (0, ([] : List (List Int)), false)) = some (r1, r2, r3) := by rw [if_pos rfl] at H; exact H
            clear H
            have H := H1
            clear H1
            simp only [Option.some.injEq, Prod.mk.injEq] at H
            obtain ⟨rfl, rfl, rfl⟩ := H
            go_wp2
            go_ret3
            exact ⟨_, by first | rfl | (simp [errW_none, errW_some] <;> rfl) | (simp [*, errW_none, errW_some] <;> rfl), by first | exact Kd.S_nil _ _ _ _ _ | exact Kd.N_nil _ _ _ _ _ | exact Kd.V_nil _ _ _ _ _ | exact Kd.Q_nil _ _ _ _ _ | exact Kd.R_nil _ _ _ _ _, by repeat (first | (with_reducible first | exact HB.out | apply below_alloc | apply pw_below_drewN | apply below_drew1) | exact HB.out)⟩
          · replace c8 := Bool.eq_false_iff.mpr c8
            subst c8
            have H1 : (spec_l4lines.l0 kj5 l0 t447 t449 t450 ([] : List (List Int)) 0) = some (r1, r2, r3) := by rw [if_neg (show ¬ (false = true) by decide)] at H; exact H
            clear H
            have H := H1
            clear H1
            have H' := Aside0.mk H
            clear H
            go_wp2
            go_loopg [8, 9, 10] kj5 (fun kq v8 v9 v10 w' => ∃ (x8_2 : Int) (x9_2 : List (List Int)) (x10_2 : Int), v8 = .int .i64 x8_2 ∧ v10 = .int .i64 x10_2 ∧ Aside0 (spec_l4lines.l0 kq l0 t447 t449 x8_2 x9_2 x10_2 = some (r1, r2, r3)) ∧ Aside0 (kq ≤ kj5) ∧ Aside0 (Kd.S (Kd.slice 5 (Kd.int .u8)) 33 w' w.heap.size (fun _ => True) v9 x9_2) ∧ Aside0 (Below w.heap.size w w'))
            case atStart => exact ⟨(t450), (([] : List (List Int))), (0), (by first | rfl | (simp; done) | (simp [*]; done)), (by first | rfl | (simp; done) | (simp [*]; done)), H', ⟨Nat.le_refl _⟩, ⟨by first | exact Kd.S_nil _ _ _ _ _ | exact Kd.N_nil _ _ _ _ _ | exact Kd.V_nil _ _ _ _ _ | exact Kd.Q_nil _ _ _ _ _ | exact Kd.R_nil _ _ _ _ _⟩, ⟨by repeat (first | (with_reducible first | exact HB.out | apply below_alloc | apply pw_below_drewN | apply below_drew1) | exact HB.out)⟩⟩
            case round =>
              clear H'
              try clear c1
              try clear c2
              try clear c2b0
              try clear c2b1
              try clear p2
              try clear c4
              try clear c4b0
              try clear c7
              try clear c7b0
              try clear c8
              try clear p2
              obtain ⟨x8_2, x9_2, x10_2, rfl, rfl, HA, HK2, HO_9, HB⟩ := hrel
              cases gk with
              | zero => exact absurd HA.out (by simp [spec_l4lines.l0])
              | succ k2 =>
                have H := HA.out
                clear HA
                simp only [spec_l4lines.l0] at H
                by_cases c9 : x10_2 < t449
                · rw [if_pos c9] at H
                  have c9b0 : decide (x10_2 < t449) = true := decide_eq_true c9
                  clear c9
                  replace H := Option.bind_eq_some_iff.mp H
                  obtain ⟨⟨t451, t452⟩, A100, H⟩ := H
                  replace H : (if t452 < 0 then (some (0, ([] : List (List Int)), false)) else (if t451 > (wrap64 ((l0.length : Int) - t452)) then (some (0, ([] : List (List Int)), false)) else (if 0 ≤ t452 then (if t452 ≤ (wrap64 (t452 + t451)) then (if (wrap64 (t452 + t451)) ≤ (l0.length : Int) then (if ([] : List Int).length + ((l0.take ((wrap64 (t452 + t451)) : Int).toNat).drop (t452 : Int).toNat).length < 140737488355328 then (if x9_2.length < 5864062014805 then (spec_l4lines.l0 k2 l0 t447 t449 (wrap64 (t452 + t451)) (x9_2 ++ [(([] : List Int) ++ ((l0.take ((wrap64 (t452 + t451)) : Int).toNat).drop (t452 : Int).toNat))]) (wrap64 (x10_2 + 1))) else (none)) else (none)) else (none)) else (none)) else (none)))) = some (r1, r2, r3) := H
                  have A10 := Aside0.mk A100
                  clear A100
                  by_cases c11 : t452 < 0
                  · rw [if_pos c11] at H
                    have c11b0 : decide (t452 < 0) = true := decide_eq_true c11
                    clear c11
                    simp only [Option.some.injEq, Prod.mk.injEq] at H
                    obtain ⟨rfl, rfl, rfl⟩ := H
                    go_wp2_with (first | ((with_reducible refine gate_callee (f := 140) rfl ?_); refine goesL_ (some 44) rfl rfl Try.func140 (by kernel_rfl) rfl #[.slice A0 l0.length c0, .int .i64 x8_2] rfl (by (try simp only [List.map_toArray, List.map_cons, List.map_nil]); first | done | rfl | (simp only [List.length_drop, List.length_take]; rfl)) ?_; (with_reducible refine (spec_l4read.calls k2 _ _ l0 x8_2 t451 t452 _ ?side1 ?side2 A10.out).mono ?_); (case side1 => repeat (first | exact (Kd.C_below HR0.out HB.out) | (with_reducible refine Kd.C_alloc ?_ _) | (with_reducible refine Kd.C_drewN ?_ _) | (with_reducible refine Kd.C_drew ?_))); (case side2 => exact HC0.out); rintro e w' ⟨rfl, ⟨nd, rfl⟩⟩; refine ⟨_, rfl, ?_⟩))
                    go_ret3
                    exact ⟨_, by first | rfl | (simp [errW_none, errW_some] <;> rfl) | (simp [*, errW_none, errW_some] <;> rfl), by first | exact Kd.S_nil _ _ _ _ _ | exact Kd.N_nil _ _ _ _ _ | exact Kd.V_nil _ _ _ _ _ | exact Kd.Q_nil _ _ _ _ _ | exact Kd.R_nil _ _ _ _ _, by repeat (first | (with_reducible first | exact HB.out | apply below_alloc | apply pw_below_drewN | apply below_drew1) | exact HB.out)⟩
                  · rw [if_neg c11] at H
                    have c11b0 : decide (t452 < 0) = false := decide_eq_false c11
                    clear c11
                    by_cases c12 : t451 > (wrap64 ((l0.length : Int) - t452))
                    · rw [if_pos c12] at H
                      have c12b0 : decide ((wrap64 ((l0.length : Int) - t452)) < t451) = true := decide_eq_true c12
                      clear c12
                      simp only [Option.some.injEq, Prod.mk.injEq] at H
                      obtain ⟨rfl, rfl, rfl⟩ := H
                      go_wp2_with (first | ((with_reducible refine gate_callee (f := 140) rfl ?_); refine goesL_ (some 44) rfl rfl Try.func140 (by kernel_rfl) rfl #[.slice A0 l0.length c0, .int .i64 x8_2] rfl (by (try simp only [List.map_toArray, List.map_cons, List.map_nil]); first | done | rfl | (simp only [List.length_drop, List.length_take]; rfl)) ?_; (with_reducible refine (spec_l4read.calls k2 _ _ l0 x8_2 t451 t452 _ ?side1 ?side2 A10.out).mono ?_); (case side1 => repeat (first | exact (Kd.C_below HR0.out HB.out) | (with_reducible refine Kd.C_alloc ?_ _) | (with_reducible refine Kd.C_drewN ?_ _) | (with_reducible refine Kd.C_drew ?_))); (case side2 => exact HC0.out); rintro e w' ⟨rfl, ⟨nd, rfl⟩⟩; refine ⟨_, rfl, ?_⟩))
                      go_ret3
                      exact ⟨_, by first | rfl | (simp [errW_none, errW_some] <;> rfl) | (simp [*, errW_none, errW_some] <;> rfl), by first | exact Kd.S_nil _ _ _ _ _ | exact Kd.N_nil _ _ _ _ _ | exact Kd.V_nil _ _ _ _ _ | exact Kd.Q_nil _ _ _ _ _ | exact Kd.R_nil _ _ _ _ _, by repeat (first | (with_reducible first | exact HB.out | apply below_alloc | apply pw_below_drewN | apply below_drew1) | exact HB.out)⟩
                    · rw [if_neg c12] at H
                      have c12b0 : decide ((wrap64 ((l0.length : Int) - t452)) < t451) = false := decide_eq_false c12
                      clear c12
                      by_cases c13 : 0 ≤ t452
                      · rw [if_pos c13] at H
                        have c13b0 := eq_true c13
                        have c13b1 : decide (0 ≤ t452) = true := decide_eq_true c13
                        clear c13
                        by_cases c14 : t452 ≤ (wrap64 (t452 + t451))
                        · rw [if_pos c14] at H
                          have c14b0 := eq_true c14
                          have c14b1 : decide (t452 ≤ (wrap64 (t452 + t451))) = true := decide_eq_true c14
                          by_cases c15 : (wrap64 (t452 + t451)) ≤ (l0.length : Int)
                          · rw [if_pos c15] at H
                            have c15b0 := eq_true c15
                            have c15b1 : decide ((wrap64 (t452 + t451)) ≤ (l0.length : Int)) = true := decide_eq_true c15
                            by_cases c16 : ([] : List Int).length + ((l0.take ((wrap64 (t452 + t451)) : Int).toNat).drop (t452 : Int).toNat).length < 140737488355328
                            · rw [if_pos c16] at H
                              have LMc16 := Aside0.mk c16
                              clear c16
                              obtain ⟨y454, hy454⟩ : ∃ y_ : List Int, y_ = (([] : List Int) ++ ((l0.take ((wrap64 (t452 + t451)) : Int).toNat).drop (t452 : Int).toNat)) := ⟨_, rfl⟩
                              replace H : (if x9_2.length < 5864062014805 then (spec_l4lines.l0 k2 l0 t447 t449 (wrap64 (t452 + t451)) (x9_2 ++ [y454]) (wrap64 (x10_2 + 1))) else (none)) = some (r1, r2, r3) := by first | (rw [hy454]; with_reducible exact H) | (have H2_ := (Option.bind_some _ _).symm.trans H; rw [hy454]; with_reducible exact H2_) | (have H2_ := (Option.bind_some _ _).symm.trans H; with_reducible exact H2_) | with_reducible exact H | (rw [hy454]; exact H) | exact H
                              have Ny454 := Aside0.mk hy454
                              clear hy454
                              by_cases c17 : x9_2.length < 5864062014805
                              · rw [if_pos c17] at H
                                have LMc17 := Aside0.mk c17
                                clear c17
                                obtain ⟨y457, hy457⟩ : ∃ y_ : List (List Int), y_ = (x9_2 ++ [y454]) := ⟨_, rfl⟩
                                replace H : (spec_l4lines.l0 k2 l0 t447 t449 (wrap64 (t452 + t451)) y457 (wrap64 (x10_2 + 1))) = some (r1, r2, r3) := by first | (rw [hy457]; with_reducible exact H) | (have H2_ := (Option.bind_some _ _).symm.trans H; rw [hy457]; with_reducible exact H2_) | (have H2_ := (Option.bind_some _ _).symm.trans H; with_reducible exact H2_) | with_reducible exact H | (rw [hy457]; exact H) | exact H
                                have Ny457 := Aside0.mk hy457
                                clear hy457
                                have H' := Aside0.mk H
                                clear H
                                go_wp2_with (first | ((with_reducible refine gate_callee (f := 140) rfl ?_); refine goesL_ (some 44) rfl rfl Try.func140 (by kernel_rfl) rfl #[.slice A0 l0.length c0, .int .i64 x8_2] rfl (by (try simp only [List.map_toArray, List.map_cons, List.map_nil]); first | done | rfl | (simp only [List.length_drop, List.length_take]; rfl)) ?_; (with_reducible refine (spec_l4read.calls k2 _ _ l0 x8_2 t451 t452 _ ?side1 ?side2 A10.out).mono ?_); (case side1 => repeat (first | exact (Kd.C_below HR0.out HB.out) | (with_reducible refine Kd.C_alloc ?_ _) | (with_reducible refine Kd.C_drewN ?_ _) | (with_reducible refine Kd.C_drew ?_))); (case side2 => exact HC0.out); rintro e w' ⟨rfl, ⟨nd, rfl⟩⟩; refine ⟨_, rfl, ?_⟩; obtain ⟨i018, hi018, _, hsz18, _⟩ := info_parts info5; obtain ⟨A18, hcut18, hA18, hC18⟩ := print_mid_of (P := Try.prog) (Value.int .u8) 0 33 5 .i64 .i64 Try.underlying33 hi018 hsz18 A0 c0 l0 t452 (wrap64 (t452 + t451)) (of_decide_eq_true (by first | (with_reducible assumption) | assumption)) (by first | omega | exact of_decide_eq_true (by first | (with_reducible assumption) | assumption)) (of_decide_eq_true (by first | (with_reducible assumption) | assumption)) HC0.out; have HR453 := Aside0.mk (Kd.C_of_reads (h1 := fun _ => rfl) (hA18 _ (Kd.reads_of_C HR0.out))); have HC453 := Aside0.mk hC18; clear hA18 hC18 hi018 hsz18) | ((with_reducible refine gate_builtin (b := .append) (xs := #[.tmp 57, .tmp 63]) rfl ?_); (try (refine gate_guard (by rfl) ?_; dsimp only)); at_builtin; refine Kd.R_append_rows (Kd.int .u8) (w0 := w) w.heap.size rfl (.tmp 57) (.tmp 63) 33 5 (.int .u8 0) 1 rfl Try.underlying33 info5 rfl (by decide) (by omega) (.slice none 0 0) ([] : List Int) ((l0.take ((wrap64 (t452 + t451)) : Int).toNat).drop (t452 : Int).toNat) _ _ _ (fun _ => True) (fun _ => False) rfl rfl ?aO ?aR (fun _ _ h => h) (fun _ h => h.elim) ?aF ?aB ?aS ?aL ?_; (case aR => first | (rw [← show ((l0.take ((wrap64 (t452 + t451)) : Int).toNat).drop (t452 : Int).toNat).length = ((wrap64 (t452 + t451)).toNat - t452.toNat) from (by rw [List.length_drop, List.length_take]; have h_ : ((wrap64 (t452 + t451)) : Int) ≤ (l0.length : Int) := of_decide_eq_true (by first | (with_reducible assumption) | assumption); omega)]; repeat (first | exact (Kd.C_below HR453.out (by repeat (first | (with_reducible first | exact HB.out | apply below_alloc | apply pw_below_drewN | apply below_drew1) | exact HB.out))) | (with_reducible refine Kd.C_alloc ?_ _) | (with_reducible refine Kd.C_drewN ?_ _) | (with_reducible refine Kd.C_drew ?_))) | (repeat (first | exact (Kd.C_below HR453.out (by repeat (first | (with_reducible first | exact HB.out | apply below_alloc | apply pw_below_drewN | apply below_drew1) | exact HB.out))) | (with_reducible refine Kd.C_alloc ?_ _) | (with_reducible refine Kd.C_drewN ?_ _) | (with_reducible refine Kd.C_drew ?_)))); (case aB => exact (by repeat (first | (with_reducible first | exact HB.out | apply below_alloc | apply pw_below_drewN | apply below_drew1) | exact HB.out))); (case aF => exact (fun _ _ => trivial)); (case aO => exact ((Kd.R_nil _ _ _ _ (fun _ => True)))); (case aS => exact (below_size (by repeat (first | (with_reducible first | exact HB.out | apply below_alloc | apply pw_below_drewN | apply below_drew1) | exact HB.out)))); (case aL => have := LMc16.out; have hlx_ := (show ((l0.take ((wrap64 (t452 + t451)) : Int).toNat).drop (t452 : Int).toNat).length = ((wrap64 (t452 + t451)).toNat - t452.toNat) from (by rw [List.length_drop, List.length_take]; have h_ : ((wrap64 (t452 + t451)) : Int) ≤ (l0.length : Int) := of_decide_eq_true (by first | (with_reducible assumption) | assumption); omega)); omega); intro v455 w19 ho hb hg hat; rw [← Ny454.out] at ho; have n0_ := Aside0.mk (Kd.S_after (Kd.S_apart_nil (by (with_reducible repeat (first | apply Kd.S_alloc | apply Kd.S_drewN | apply Kd.S_drew)); exact HO_9.out)) hg hat); have n1_ := Aside0.mk (hb); have n2_ := Aside0.mk (ho); clear HO_9; clear HB; have HO_9 := n0_; have HB := n1_; have HO456 := n2_; clear n0_ n1_ n2_; clear ho hb hg hat; obtain ⟨Ao21, co21, eo21⟩ := Kd.R_slice HO456.out; subst eo21) | ((with_reducible refine gate_builtin (b := .append) (xs := #[.tmp 65, .tmp 67]) rfl ?_); (try (refine gate_guard (by rfl) ?_; dsimp only)); at_builtin; refine Kd.S_append (Kd.slice 5 (Kd.int .u8)) (w0 := w) w.heap.size rfl (.tmp 65) (.tmp 67) 41 33 (.slice none 0 0) 24 rfl Try.underlying41 info33 rfl (by decide) (by omega) u9 x9_2 y454 [.slice Ao21 y454.length co21] (fun _ => True) (fun k_ => some k_ = (.slice Ao21 y454.length co21 : Value).ownBlock) rfl rfl ?aP (fun k_ hk_ => ((Kd.R_mono (ok' := fun k_ => ((fun _ => True)) k_ ∧ some k_ ≠ (u9 : Value).ownBlock) (Kd.R_apart' (HO456.out) (Kd.S_typed HO_9.out) (by decide)) (fun k_ hk => ⟨trivial, hk.2⟩))).1 k_ hk_.symm) ?aF ?aO ?aB ?aS ?aL ?_; (case aP => exact Kd.M_row (Kd.R_mono (Kd.R_tight rfl (Kd.R_mono (ok' := fun k_ => ((fun _ => True)) k_ ∧ some k_ ≠ (u9 : Value).ownBlock) (Kd.R_apart' (HO456.out) (Kd.S_typed HO_9.out) (by decide)) (fun k_ hk => ⟨trivial, hk.2⟩))) (fun _ h_ => h_))); (case aB => exact (by repeat (first | (with_reducible first | exact HB.out | apply below_alloc | apply pw_below_drewN | apply below_drew1) | exact HB.out))); (case aF => exact (fun _ _ => trivial)); (case aO => exact (by (with_reducible repeat (first | apply Kd.S_alloc | apply Kd.S_drewN | apply Kd.S_drew)); exact Kd.S_mono HO_9.out (fun k_ hk => ⟨trivial, fun e_ => hk.2 e_⟩))); (case aS => exact (below_size (by repeat (first | (with_reducible first | exact HB.out | apply below_alloc | apply pw_below_drewN | apply below_drew1) | exact HB.out)))); (case aL => have := LMc17.out; omega); intro v458 w20 ho hb hg hat; rw [← Ny457.out] at ho; have n0_ := Aside0.mk (hb); have n1_ := Aside0.mk (ho); clear HB; clear HO_9; clear HO456; have HB := n0_; have HO459 := n1_; clear n0_ n1_; clear ho hb hg hat))
                                go_roundg k2
                                case measure => have := HJ5.out; have := HK2.out; omega
                                case rel => exact ⟨(wrap64 (t452 + t451)), (y457), (wrap64 (x10_2 + 1)), (by first | rfl | (simp; done) | (simp [*]; done)), (by first | rfl | (simp; done) | (simp [*]; done)), H', ⟨by have := HJ5.out; have := HK2.out; omega⟩, ⟨by (with_reducible repeat (first | apply Kd.S_alloc | apply Kd.S_drewN | apply Kd.S_drew)); exact HO459.out⟩, ⟨by repeat (first | (with_reducible first | exact HB.out | apply below_alloc | apply pw_below_drewN | apply below_drew1) | exact HB.out)⟩⟩
                              · rw [if_neg c17] at H
                                exact absurd H (by simp)
                            · rw [if_neg c16] at H
                              exact absurd H (by simp)
                          · rw [if_neg c15] at H
                            exact absurd H (by simp)
                        · rw [if_neg c14] at H
                          exact absurd H (by simp)
                      · rw [if_neg c13] at H
                        exact absurd H (by simp)
                · rw [if_neg c9] at H
                  have c9b0 : decide (x10_2 < t449) = false := decide_eq_false c9
                  clear c9
                  simp only [Option.some.injEq, Prod.mk.injEq] at H
                  obtain ⟨rfl, rfl, rfl⟩ := H
                  go_wp2
                  go_ret3
                  exact ⟨_, by first | rfl | (simp [errW_none, errW_some] <;> rfl) | (simp [*, errW_none, errW_some] <;> rfl), by (with_reducible repeat (first | apply Kd.S_alloc | apply Kd.S_drewN | apply Kd.S_drew)); exact HO_9.out, by repeat (first | (with_reducible first | exact HB.out | apply below_alloc | apply pw_below_drewN | apply below_drew1) | exact HB.out)⟩
def spec_DecodeSegment.j0 : Nat → List Int → Int → List (List Int) → Bool → Option (Int × (List (List Int)) × List Int × (List (List Int)) × Int)
  | 0, _, _, _, _ => none
  | k + 1, x0, x4, x5, x21 => if x21 = true then (some (0, ([] : List (List Int)), ([] : List Int), ([] : List (List Int)), 5)) else ((spec_l4build.f k x4 x5).bind fun bt467 => ((spec_l4encode.f k bt467.1 bt467.2.1 bt467.2.2.1 bt467.2.2.2).bind fun t478 => ((spec_l4sameBytes.f t478 x0).bind fun t481 => (if t481 = true then (some (bt467.1, bt467.2.1, bt467.2.2.1, bt467.2.2.2, 0)) else (some (0, ([] : List (List Int)), ([] : List Int), ([] : List (List Int)), 5))))))
def spec_DecodeSegment.f (k : Nat) (l0 : List Int) : Option (Int × (List (List Int)) × List Int × (List (List Int)) × Int) := (spec_l4lines.f k l0).bind fun bt461 => (if bt461.2.2 = true then ((spec_l4fits.f k bt461.1 bt461.2.1).bind fun t466 => (spec_DecodeSegment.j0 k l0 bt461.1 bt461.2.1 (!t466))) else (spec_DecodeSegment.j0 k l0 bt461.1 bt461.2.1 true))
set_option maxHeartbeats 8000000 in
set_option maxRecDepth 100000 in
theorem spec_DecodeSegment.calls (k : Nat) (A0 : Option Addr) (c0 : Nat) (l0 : List Int) (r1 : Int) (r2 : List (List Int)) (r3 : List Int) (r4 : List (List Int)) (r5 : Int) (w : World) (hr0 : Kd.C (Kd.int .u8) w A0 l0.length l0) (hc0 : l0.length ≤ c0) (h : spec_DecodeSegment.f k l0 = some (r1, r2, r3, r4, r5)) :
    Calls Try.prog 44 #[.slice A0 l0.length c0] w fun e w' => ∃ v1_ v2_ v3_ : Value, e = .returned (.tuple #[.agg #[.int .i64 r1, v1_, v2_, v3_], .int .i64 r5]) ∧ Kd.S (Kd.slice 5 (Kd.int .u8)) 33 w' w.heap.size (fun _ => True) v1_ r2 ∧ Kd.R (Kd.int .i64) 3 w' w.heap.size (fun _ => True) v2_ r3 ∧ Kd.S (Kd.slice 3 (Kd.int .i64)) 22 w' w.heap.size (fun k_ => some k_ ≠ (v2_ : Value).ownBlock) v3_ r4 ∧ Below w.heap.size w w' := by
  have hu50 := Try.underlying50
  have HR0 := Aside0.mk hr0
  have HC0 := Aside0.mk hc0
  clear hr0 hc0
  have HB := Aside0.mk (Below.refl w.heap.size w)
  have H : ((spec_l4lines.f k l0).bind fun bt461 => (if bt461.2.2 = true then ((spec_l4fits.f k bt461.1 bt461.2.1).bind fun t466 => (spec_DecodeSegment.j0 k l0 bt461.1 bt461.2.1 (!t466))) else (spec_DecodeSegment.j0 k l0 bt461.1 bt461.2.1 true))) = some (r1, r2, r3, r4, r5) := h
  clear h
  replace H := Option.bind_eq_some_iff.mp H
  obtain ⟨⟨t461, t462, t463⟩, A20, H⟩ := H
  replace H : (if t463 = true then ((spec_l4fits.f k t461 t462).bind fun t466 => (spec_DecodeSegment.j0 k l0 t461 t462 (!t466))) else (spec_DecodeSegment.j0 k l0 t461 t462 true)) = some (r1, r2, r3, r4, r5) := H
  have A2 := Aside0.mk A20
  clear A20
  have HC3 := Aside0.mk H
  clear H
  go_enter Try.func44, Try.ntmps44
  go_upto_region 2 with (first | ((with_reducible refine gate_dst (N := 2) rfl ?_); refine box_event ?hg (N := 2) ?hd (cs := #[.int .i64 0, .slice none 0 0, .slice none 0 0, .slice none 0 0]) (t := 50) ?hr ?_; (case hd => rfl); (case hg => rfl); (case hr => first | (go_simp; done) | (go_simp; rfl)); intro gb460 hg w4 hbox hb; have n0_ := Aside0.mk (below_step (by repeat (first | (with_reducible first | exact HB.out | apply below_alloc | apply pw_below_drewN | apply below_drew1) | exact HB.out)) hb); have n1_ := Aside0.mk (hbox); have n2_ := Aside0.mk ((by rw [hg]; exact (below_size (by repeat (first | (with_reducible first | exact HB.out | apply below_alloc | apply pw_below_drewN | apply below_drew1) | exact HB.out))) : w.heap.size ≤ gb460)); have n3_ := Aside0.mk ((by rw [hg]; exact (below_size (by repeat (first | (with_reducible first | exact HB.out | apply below_alloc | apply pw_below_drewN | apply below_drew1) | exact HB.out))) : w.heap.size ≤ gb460)); clear HB; have HB := n0_; have BK460 := n1_; have GW460 := n2_; have GE460 := n3_; clear n0_ n1_ n2_ n3_; clear hb hbox hg) | ((with_reducible refine gate_callee (f := 100) rfl ?_); refine goesL_ (some 10) rfl rfl Try.func100 (by kernel_rfl) rfl #[.slice A0 l0.length c0] rfl (by (try simp only [List.map_toArray, List.map_cons, List.map_nil]); first | done | rfl | (simp only [List.length_drop, List.length_take]; rfl)) ?_; (with_reducible refine (spec_l4lines.calls k _ _ l0 t461 t462 t463 _ ?side1 ?side2 A2.out).mono ?_); (case side1 => repeat (first | exact (Kd.C_below HR0.out HB.out) | (with_reducible refine Kd.C_alloc ?_ _) | (with_reducible refine Kd.C_drewN ?_ _) | (with_reducible refine Kd.C_drew ?_))); (case side2 => exact HC0.out); rintro e w5 ⟨v464, rfl, ho0, hb⟩; refine ⟨_, rfl, ?_⟩; have n0_ := Aside0.mk (Kd.S_lower ho0 (below_size (by repeat (first | (with_reducible first | exact HB.out | apply below_alloc | apply pw_below_drewN | apply below_drew1 | refine below_set ?_ GE460.out) | exact HB.out)))); have n1_ := Aside0.mk (blk_below (g := gb460) (o := .cells #[.int .i64 0, .slice none 0 0, .slice none 0 0, .slice none 0 0] 50 (0, 0)) (by (with_reducible repeat (first | refine blk_drewN ?_ _ | refine blk_drew ?_ | refine blk_alloc ?_ _)); exact BK460.out) hb); have n2_ := Aside0.mk (below_step (by repeat (first | (with_reducible first | exact HB.out | apply below_alloc | apply pw_below_drewN | apply below_drew1 | refine below_set ?_ GE460.out) | exact HB.out)) hb); clear BK460; clear HB; have HO465 := n0_; have BK460 := n1_; have HB := n2_; clear n0_ n1_ n2_; (try clear hb); (try clear hb2); (try clear hk); (try clear hi); (try clear ho0)))
  (try simp only [Act.put, List.setIfInBounds_toArray, List.set_cons_zero, List.set_cons_succ])
  go_cut [21] (fun v21 wc => ∃ (kq : Nat) (x21_2 : Bool), v21 = .bool x21_2 ∧ Aside0 (spec_DecodeSegment.j0 kq l0 t461 t462 x21_2 = some (r1, r2, r3, r4, r5)) ∧ Aside0 (kq ≤ k) ∧ Aside0 (Kd.S (Kd.slice 5 (Kd.int .u8)) 33 wc w.heap.size (fun _ => True) v464 t462) ∧ Aside0 (wc.heap[gb460]? = some (.cells #[.int .i64 0, (.slice none 0 0), (.slice none 0 0), (.slice none 0 0)] 50 (0, 0))) ∧ Aside0 (Below w.heap.size w wc))
  case first =>
    have H := HC3.out
    clear HC3
    by_cases c6 : t463 = true
    · subst c6
      have H1 : ((spec_l4fits.f k t461 t462).bind fun t466 => (spec_DecodeSegment.j0 k l0 t461 t462 (!t466))) = some (r1, r2, r3, r4, r5) := by rw [if_pos rfl] at H; exact H
      clear H
      have H := H1
      clear H1
      replace H := Option.bind_eq_some_iff.mp H
      obtain ⟨t466, A70, H⟩ := H
      replace H : (spec_DecodeSegment.j0 k l0 t461 t462 (!t466)) = some (r1, r2, r3, r4, r5) := H
      have A7 := Aside0.mk A70
      clear A70
      have H' := Aside0.mk H
      clear H
      obtain ⟨Ao8, co8, eo8⟩ := Kd.S_slice HO465.out
      subst eo8
      go_wp2_with (first | (go_at_call 91; (with_reducible refine (spec_l4fits.calls k t461 _ _ t462 t466 _ ?side1 ?side2 A7.out).mono ?_); (case side1 => repeat (first | exact (Kd.S_reads' HO465.out).2.2 | (with_reducible refine Kd.C_alloc ?_ _) | (with_reducible refine Kd.C_drewN ?_ _) | (with_reducible refine Kd.C_drew ?_))); (case side2 => exact (Kd.S_reads' HO465.out).2.1); rintro e w' ⟨rfl, ⟨nd, rfl⟩⟩))
      go_meet
      case rel => exact ⟨_, (!t466), (by first | rfl | (simp; done) | (simp [*]; done)), H', ⟨by first | omega | exact Nat.le_refl _⟩, ⟨by (with_reducible repeat (first | apply Kd.S_alloc | apply Kd.S_drewN | apply Kd.S_drew)); exact HO465.out⟩, ⟨by (with_reducible repeat (first | refine blk_drewN ?_ _ | refine blk_drew ?_ | refine blk_alloc ?_ _)); exact BK460.out⟩, ⟨by repeat (first | (with_reducible first | exact HB.out | apply below_alloc | apply pw_below_drewN | apply below_drew1 | refine below_set ?_ GE460.out) | exact HB.out)⟩⟩
    · replace c6 := Bool.eq_false_iff.mpr c6
      subst c6
      have H1 : (spec_DecodeSegment.j0 k l0 t461 t462 true) = some (r1, r2, r3, r4, r5) := by rw [if_neg (show ¬ (false = true) by decide)] at H; exact H
      clear H
      have H := H1
      clear H1
      have H' := Aside0.mk H
      clear H
      go_wp2
      go_meet
      case rel => exact ⟨_, (true), (by first | rfl | (simp; done) | (simp [*]; done)), H', ⟨by first | omega | exact Nat.le_refl _⟩, ⟨by (with_reducible repeat (first | apply Kd.S_alloc | apply Kd.S_drewN | apply Kd.S_drew)); exact HO465.out⟩, ⟨by (with_reducible repeat (first | refine blk_drewN ?_ _ | refine blk_drew ?_ | refine blk_alloc ?_ _)); exact BK460.out⟩, ⟨by repeat (first | (with_reducible first | exact HB.out | apply below_alloc | apply pw_below_drewN | apply below_drew1 | refine below_set ?_ GE460.out) | exact HB.out)⟩⟩
  case rest =>
    clear HC3
    try clear c1
    try clear p2
    try clear c4
    try clear c6
    obtain ⟨kq, x21_2, rfl, HA, HJ2, HO_5, BK460, HB⟩ := hcut
    cases kq with
    | zero => exact absurd HA.out (by simp [spec_DecodeSegment.j0])
    | succ kj2 =>
      have H := HA.out
      clear HA
      simp only [spec_DecodeSegment.j0] at H
      by_cases c9 : x21_2 = true
      · subst c9
        have H1 : (some (0, ([] : List (List Int)), ([] : List Int), ([] : List (List Int)), 5)) = some (r1, r2, r3, r4, r5) := by rw [if_pos rfl] at H; exact H
        clear H
        have H := H1
        clear H1
        simp only [Option.some.injEq, Prod.mk.injEq] at H
        obtain ⟨rfl, rfl, rfl, rfl, rfl⟩ := H
        have hcz10_0 : wc.cell? ⟨gb460, 0, none⟩ = some (.int .i64 0) := (blk_cell BK460.out 0).trans rfl
        have hcz10_1 : wc.cell? ⟨gb460, 1, none⟩ = some (.slice none 0 0) := (blk_cell BK460.out 1).trans rfl
        have hcz10_2 : wc.cell? ⟨gb460, 2, none⟩ = some (.slice none 0 0) := (blk_cell BK460.out 2).trans rfl
        have hcz10_3 : wc.cell? ⟨gb460, 3, none⟩ = some (.slice none 0 0) := (blk_cell BK460.out 3).trans rfl
        have hfz10_0 := blk_frozen BK460.out 0
        have hfz10_1 := blk_frozen BK460.out 1
        have hfz10_2 := blk_frozen BK460.out 2
        have hfz10_3 := blk_frozen BK460.out 3
        go_wp2
        refine bodyPost_ret (results_ct rfl _ _ gb460 50 #[.int .i64 0, .slice none 0 0, .slice none 0 0, .slice none 0 0] (0, 0) _ rfl (by (with_reducible repeat (first | refine blk_drewN ?_ _ | refine blk_drew ?_ | refine blk_alloc ?_ _)); refine blk_put (cs := #[.int .i64 0, .slice none 0 0, .slice none 0 0, .slice none 0 0]) ?_ 3 _ rfl; (with_reducible repeat (first | refine blk_drewN ?_ _ | refine blk_drew ?_ | refine blk_alloc ?_ _)); refine blk_put (cs := #[.int .i64 0, .slice none 0 0, .slice none 0 0, .slice none 0 0]) ?_ 2 _ rfl; (with_reducible repeat (first | refine blk_drewN ?_ _ | refine blk_drew ?_ | refine blk_alloc ?_ _)); refine blk_put (cs := #[.int .i64 0, .slice none 0 0, .slice none 0 0, .slice none 0 0]) ?_ 1 _ rfl; (with_reducible repeat (first | refine blk_drewN ?_ _ | refine blk_drew ?_ | refine blk_alloc ?_ _)); refine blk_put (cs := #[.int .i64 0, .slice none 0 0, .slice none 0 0, .slice none 0 0]) ?_ 0 _ rfl; (with_reducible repeat (first | refine blk_drewN ?_ _ | refine blk_drew ?_ | refine blk_alloc ?_ _)); exact BK460.out) Try.underlying50 rfl (by kernel_rfl)) rfl ?_
        exact ⟨_, _, _, by first | rfl | (simp [errW_none, errW_some] <;> rfl) | (simp [*, errW_none, errW_some] <;> rfl), by first | exact Kd.S_nil _ _ _ _ _ | exact Kd.N_nil _ _ _ _ _ | exact Kd.V_nil _ _ _ _ _ | exact Kd.Q_nil _ _ _ _ _ | exact Kd.R_nil _ _ _ _ _, by first | exact Kd.R_nil _ _ _ _ _ | exact Kd.N_nil _ _ _ _ _ | exact Kd.V_nil _ _ _ _ _ | exact Kd.Q_nil _ _ _ _ _ | exact Kd.S_nil _ _ _ _ _, by first | exact Kd.S_nil _ _ _ _ _ | exact Kd.N_nil _ _ _ _ _ | exact Kd.V_nil _ _ _ _ _ | exact Kd.Q_nil _ _ _ _ _ | exact Kd.R_nil _ _ _ _ _, by repeat (first | (with_reducible first | exact HB.out | apply below_alloc | apply pw_below_drewN | apply below_drew1 | refine below_set ?_ GE460.out) | exact HB.out)⟩
      · replace c9 := Bool.eq_false_iff.mpr c9
        subst c9
        have H1 : ((spec_l4build.f kj2 t461 t462).bind fun bt467 => ((spec_l4encode.f kj2 bt467.1 bt467.2.1 bt467.2.2.1 bt467.2.2.2).bind fun t478 => ((spec_l4sameBytes.f t478 l0).bind fun t481 => (if t481 = true then (some (bt467.1, bt467.2.1, bt467.2.2.1, bt467.2.2.2, 0)) else (some (0, ([] : List (List Int)), ([] : List Int), ([] : List (List Int)), 5)))))) = some (r1, r2, r3, r4, r5) := by rw [if_neg (show ¬ (false = true) by decide)] at H; exact H
        clear H
        have H := H1
        clear H1
        replace H := Option.bind_eq_some_iff.mp H
        obtain ⟨⟨t467, t468, t471, t474⟩, A110, H⟩ := H
        replace H : ((spec_l4encode.f kj2 t467 t468 t471 t474).bind fun t478 => ((spec_l4sameBytes.f t478 l0).bind fun t481 => (if t481 = true then (some (t467, t468, t471, t474, 0)) else (some (0, ([] : List (List Int)), ([] : List Int), ([] : List (List Int)), 5))))) = some (r1, r2, r3, r4, r5) := H
        have A11 := Aside0.mk A110
        clear A110
        replace H := Option.bind_eq_some_iff.mp H
        obtain ⟨t478, A120, H⟩ := H
        replace H : ((spec_l4sameBytes.f t478 l0).bind fun t481 => (if t481 = true then (some (t467, t468, t471, t474, 0)) else (some (0, ([] : List (List Int)), ([] : List Int), ([] : List (List Int)), 5)))) = some (r1, r2, r3, r4, r5) := H
        have A12 := Aside0.mk A120
        clear A120
        replace H := Option.bind_eq_some_iff.mp H
        obtain ⟨t481, A130, H⟩ := H
        replace H : (if t481 = true then (some (t467, t468, t471, t474, 0)) else (some (0, ([] : List (List Int)), ([] : List Int), ([] : List (List Int)), 5))) = some (r1, r2, r3, r4, r5) := H
        have A13 := Aside0.mk A130
        clear A130
        by_cases c14 : t481 = true
        · subst c14
          have H1 : (some (t467, t468, t471, t474, 0)) = some (r1, r2, r3, r4, r5) := by rw [if_pos rfl] at H; exact H
          clear H
          have H := H1
          clear H1
          simp only [Option.some.injEq, Prod.mk.injEq] at H
          obtain ⟨rfl, rfl, rfl, rfl, rfl⟩ := H
          obtain ⟨Ao15, co15, eo15⟩ := Kd.S_slice HO_5.out
          subst eo15
          go_wp2_with (first | ((with_reducible refine gate_callee (f := 92) rfl ?_); refine goesL_ (some 25) rfl rfl Try.func92 (by kernel_rfl) rfl #[.int .i64 t461, .slice Ao15 t462.length co15] rfl (by (try simp only [List.map_toArray, List.map_cons, List.map_nil]); first | done | rfl | (simp only [List.length_drop, List.length_take]; rfl)) ?_; (with_reducible refine (spec_l4build.calls kj2 t461 _ _ t462 t467 t468 t471 t474 _ ?side1 ?side2 A11.out).mono ?_); (case side1 => repeat (first | exact (Kd.S_reads' HO_5.out).2.2 | (with_reducible refine Kd.C_alloc ?_ _) | (with_reducible refine Kd.C_drewN ?_ _) | (with_reducible refine Kd.C_drew ?_))); (case side2 => exact (Kd.S_reads' HO_5.out).2.1); rintro e w16 ⟨v469, v472, v475, rfl, ho0, ho1, ho2, hb⟩; refine ⟨_, rfl, ?_⟩; have n0_ := Aside0.mk (Kd.S_elder' (by (with_reducible repeat (first | apply Kd.S_alloc | apply Kd.S_drewN | apply Kd.S_drew)); exact HO_5.out) (Kd.S_base ho0) hb); have n1_ := Aside0.mk (Kd.S_lower (Kd.S_new' ho0 (Kd.S_lt (by (with_reducible repeat (first | apply Kd.S_alloc | apply Kd.S_drewN | apply Kd.S_drew)); exact HO_5.out))) (below_size (by repeat (first | (with_reducible first | exact HB.out | apply below_alloc | apply pw_below_drewN | apply below_drew1 | refine below_set ?_ GE460.out) | exact HB.out)))); have n2_ := Aside0.mk (Kd.R_lower ho1 (below_size (by repeat (first | (with_reducible first | exact HB.out | apply below_alloc | apply pw_below_drewN | apply below_drew1 | refine below_set ?_ GE460.out) | exact HB.out)))); have n3_ := Aside0.mk (Kd.S_lower ho2 (below_size (by repeat (first | (with_reducible first | exact HB.out | apply below_alloc | apply pw_below_drewN | apply below_drew1 | refine below_set ?_ GE460.out) | exact HB.out)))); have n4_ := Aside0.mk (blk_below (g := gb460) (o := .cells #[.int .i64 0, .slice none 0 0, .slice none 0 0, .slice none 0 0] 50 (0, 0)) (by (with_reducible repeat (first | refine blk_drewN ?_ _ | refine blk_drew ?_ | refine blk_alloc ?_ _)); exact BK460.out) hb); have n5_ := Aside0.mk (below_step (by repeat (first | (with_reducible first | exact HB.out | apply below_alloc | apply pw_below_drewN | apply below_drew1 | refine below_set ?_ GE460.out) | exact HB.out)) hb); clear HO_5; clear BK460; clear HB; have HO_5 := n0_; have HO470 := n1_; have HO473 := n2_; have HO476 := n3_; have BK460 := n4_; have HB := n5_; clear n0_ n1_ n2_ n3_ n4_ n5_; (try clear hb); (try clear hb2); (try clear hk); (try clear hi); (try clear ho0); (try clear ho1); (try clear ho2)) | ((with_reducible refine gate_dst (N := 7) rfl ?_); refine box_event ?hg (N := 7) ?hd (cs := #[.int .i64 0, .slice none 0 0, .slice none 0 0, .slice none 0 0]) (t := 50) ?hr ?_; (case hd => rfl); (case hg => rfl); (case hr => first | (go_simp; done) | (go_simp; rfl)); intro gb477 hg w17 hbox hb; have n0_ := Aside0.mk (Kd.S_below (by (with_reducible repeat (first | apply Kd.S_alloc | apply Kd.S_drewN | apply Kd.S_drew)); exact HO_5.out) hb); have n1_ := Aside0.mk (Kd.S_below (by (with_reducible repeat (first | apply Kd.S_alloc | apply Kd.S_drewN | apply Kd.S_drew)); exact HO470.out) hb); have n2_ := Aside0.mk (Kd.R_below (by (with_reducible repeat (first | apply Kd.R_alloc | apply Kd.R_drewN | apply Kd.R_drew)); exact HO473.out) hb); have n3_ := Aside0.mk (Kd.S_below (by (with_reducible repeat (first | apply Kd.S_alloc | apply Kd.S_drewN | apply Kd.S_drew)); exact HO476.out) hb); have n4_ := Aside0.mk (blk_below (g := gb460) (o := .cells #[.int .i64 0, .slice none 0 0, .slice none 0 0, .slice none 0 0] 50 (0, 0)) (by (with_reducible repeat (first | refine blk_drewN ?_ _ | refine blk_drew ?_ | refine blk_alloc ?_ _)); exact BK460.out) hb); have n5_ := Aside0.mk (below_step (by repeat (first | (with_reducible first | exact HB.out | apply below_alloc | apply pw_below_drewN | apply below_drew1 | refine below_set ?_ GE460.out) | exact HB.out)) hb); have n6_ := Aside0.mk (hbox); have n7_ := Aside0.mk ((by rw [hg]; exact (below_size (by repeat (first | (with_reducible first | exact HB.out | apply below_alloc | apply pw_below_drewN | apply below_drew1 | refine below_set ?_ GE460.out) | exact HB.out))) : w.heap.size ≤ gb477)); have n8_ := Aside0.mk ((by rw [hg]; exact (below_size (by repeat (first | (with_reducible first | exact HB.out | apply below_alloc | apply pw_below_drewN | apply below_drew1 | refine below_set ?_ GE460.out) | exact HB.out))) : w.heap.size ≤ gb477)); have n9_ := Aside0.mk ((by rw [hg]; exact Nat.ne_of_lt (blk_lt (g := gb460) (o := .cells #[.int .i64 0, .slice none 0 0, .slice none 0 0, .slice none 0 0] 50 (0, 0)) (by (with_reducible repeat (first | refine blk_drewN ?_ _ | refine blk_drew ?_ | refine blk_alloc ?_ _)); exact BK460.out)) : gb460 ≠ gb477)); have n10_ := Aside0.mk ((by rw [hg]; exact Nat.ne_of_gt (blk_lt (g := gb460) (o := .cells #[.int .i64 0, .slice none 0 0, .slice none 0 0, .slice none 0 0] 50 (0, 0)) (by (with_reducible repeat (first | refine blk_drewN ?_ _ | refine blk_drew ?_ | refine blk_alloc ?_ _)); exact BK460.out)) : gb477 ≠ gb460)); clear HO_5; clear HO470; clear HO473; clear HO476; clear BK460; clear HB; have HO_5 := n0_; have HO470 := n1_; have HO473 := n2_; have HO476 := n3_; have BK460 := n4_; have HB := n5_; have BK477 := n6_; have GW477 := n7_; have GE477 := n8_; have NB460_477 := n9_; have NB477_460 := n10_; clear n0_ n1_ n2_ n3_ n4_ n5_ n6_ n7_ n8_ n9_ n10_; clear hb hbox hg; have hnb18 := NB477_460.out; have hnc18 := NB460_477.out; have hcz19_0 : w17.cell? ⟨gb477, 0, none⟩ = some (.int .i64 0) := (blk_cell BK477.out 0).trans rfl; have hcz19_1 : w17.cell? ⟨gb477, 1, none⟩ = some (.slice none 0 0) := (blk_cell BK477.out 1).trans rfl; have hcz19_2 : w17.cell? ⟨gb477, 2, none⟩ = some (.slice none 0 0) := (blk_cell BK477.out 2).trans rfl; have hcz19_3 : w17.cell? ⟨gb477, 3, none⟩ = some (.slice none 0 0) := (blk_cell BK477.out 3).trans rfl; have hfz19_0 := blk_frozen BK477.out 0; have hfz19_1 := blk_frozen BK477.out 1; have hfz19_2 := blk_frozen BK477.out 2; have hfz19_3 := blk_frozen BK477.out 3; obtain ⟨Ao20, co20, eo20⟩ := Kd.S_slice HO470.out; subst eo20; obtain ⟨Ao21, co21, eo21⟩ := Kd.R_slice HO473.out; subst eo21; obtain ⟨Ao22, co22, eo22⟩ := Kd.S_slice HO476.out; subst eo22) | ((with_reducible refine gate_callee (f := 102) rfl ?_); refine goesL_ (some 27) rfl rfl Try.func102 (by kernel_rfl) rfl #[.agg #[.int .i64 t467, .slice Ao20 t468.length co20, .slice Ao21 t471.length co21, .slice Ao22 t474.length co22]] rfl (by (try simp only [List.map_toArray, List.map_cons, List.map_nil]); first | done | rfl | (simp only [List.length_drop, List.length_take]; rfl)) ?_; (with_reducible refine (spec_l4encode.calls kj2 t467 _ _ t468 _ _ t471 _ _ t474 t478 _ ?side1 ?side2 ?side3 ?side4 ?side5 ?side6 A12.out).mono ?_); (case side1 => refine (Kd.S_reads' (e := 33) (base := w.heap.size) (ok := fun k_ => (True ∧ some k_ ≠ (.slice Ao15 t462.length co15 : Value).ownBlock)) (n := t468.length) (c := co20) ?_).2.2; exact (by (with_reducible repeat (first | apply Kd.S_alloc | apply Kd.S_drewN | apply Kd.S_drew)); exact (Kd.S_mono (Kd.S_far (p := ⟨gb477, 3, none⟩) (Kd.S_far (p := ⟨gb477, 2, none⟩) (Kd.S_far (p := ⟨gb477, 1, none⟩) (Kd.S_far (p := ⟨gb477, 0, none⟩) (Kd.S_types HO470.out BK477.out (by decide)) (fun _ hk => hk.2) (.int .i64 t467)) (fun _ hk => hk.2) (.slice Ao20 t468.length co20)) (fun _ hk => hk.2) (.slice Ao21 t471.length co21)) (fun _ hk => hk.2) (.slice Ao22 t474.length co22)) (fun _ h_ => h_.1)))); (case side2 => exact (Kd.S_reads' HO470.out).2.1); (case side3 => refine (Kd.R_reads' (e := 3) (base := w.heap.size) (ok := fun k_ => True) (n := t471.length) (c := co21) ?_).2.2; exact (by (with_reducible repeat (first | apply Kd.R_alloc | apply Kd.R_drewN | apply Kd.R_drew)); exact (Kd.R_mono (Kd.R_far (p := ⟨gb477, 3, none⟩) (Kd.R_far (p := ⟨gb477, 2, none⟩) (Kd.R_far (p := ⟨gb477, 1, none⟩) (Kd.R_far (p := ⟨gb477, 0, none⟩) (Kd.R_types HO473.out BK477.out (by decide)) (fun _ hk => hk.2) (.int .i64 t467)) (fun _ hk => hk.2) (.slice Ao20 t468.length co20)) (fun _ hk => hk.2) (.slice Ao21 t471.length co21)) (fun _ hk => hk.2) (.slice Ao22 t474.length co22)) (fun _ h_ => h_.1)))); (case side4 => exact (Kd.R_reads' HO473.out).2.1); (case side5 => refine (Kd.S_reads' (e := 22) (base := w.heap.size) (ok := fun k_ => some k_ ≠ (.slice Ao21 t471.length co21 : Value).ownBlock) (n := t474.length) (c := co22) ?_).2.2; exact (by (with_reducible repeat (first | apply Kd.S_alloc | apply Kd.S_drewN | apply Kd.S_drew)); exact (Kd.S_mono (Kd.S_far (p := ⟨gb477, 3, none⟩) (Kd.S_far (p := ⟨gb477, 2, none⟩) (Kd.S_far (p := ⟨gb477, 1, none⟩) (Kd.S_far (p := ⟨gb477, 0, none⟩) (Kd.S_types HO476.out BK477.out (by decide)) (fun _ hk => hk.2) (.int .i64 t467)) (fun _ hk => hk.2) (.slice Ao20 t468.length co20)) (fun _ hk => hk.2) (.slice Ao21 t471.length co21)) (fun _ hk => hk.2) (.slice Ao22 t474.length co22)) (fun _ h_ => h_.1)))); (case side6 => exact (Kd.S_reads' HO476.out).2.1); rintro e w23 ⟨v479, rfl, ho0, hb⟩; refine ⟨_, rfl, ?_⟩; have n0_ := Aside0.mk (Kd.S_elder' (by (with_reducible repeat (first | apply Kd.S_alloc | apply Kd.S_drewN | apply Kd.S_drew)); exact (Kd.S_mono (Kd.S_far (p := ⟨gb477, 3, none⟩) (Kd.S_far (p := ⟨gb477, 2, none⟩) (Kd.S_far (p := ⟨gb477, 1, none⟩) (Kd.S_far (p := ⟨gb477, 0, none⟩) (Kd.S_types HO_5.out BK477.out (by decide)) (fun _ hk => hk.2) (.int .i64 t467)) (fun _ hk => hk.2) (.slice Ao20 t468.length co20)) (fun _ hk => hk.2) (.slice Ao21 t471.length co21)) (fun _ hk => hk.2) (.slice Ao22 t474.length co22)) (fun _ h_ => h_.1))) (Kd.R_base ho0) hb); have n1_ := Aside0.mk (Kd.S_elder' (by (with_reducible repeat (first | apply Kd.S_alloc | apply Kd.S_drewN | apply Kd.S_drew)); exact (Kd.S_mono (Kd.S_far (p := ⟨gb477, 3, none⟩) (Kd.S_far (p := ⟨gb477, 2, none⟩) (Kd.S_far (p := ⟨gb477, 1, none⟩) (Kd.S_far (p := ⟨gb477, 0, none⟩) (Kd.S_types HO470.out BK477.out (by decide)) (fun _ hk => hk.2) (.int .i64 t467)) (fun _ hk => hk.2) (.slice Ao20 t468.length co20)) (fun _ hk => hk.2) (.slice Ao21 t471.length co21)) (fun _ hk => hk.2) (.slice Ao22 t474.length co22)) (fun _ h_ => h_.1))) (Kd.R_base ho0) hb); have n2_ := Aside0.mk (Kd.R_below (by (with_reducible repeat (first | apply Kd.R_alloc | apply Kd.R_drewN | apply Kd.R_drew)); exact (Kd.R_mono (Kd.R_far (p := ⟨gb477, 3, none⟩) (Kd.R_far (p := ⟨gb477, 2, none⟩) (Kd.R_far (p := ⟨gb477, 1, none⟩) (Kd.R_far (p := ⟨gb477, 0, none⟩) (Kd.R_types HO473.out BK477.out (by decide)) (fun _ hk => hk.2) (.int .i64 t467)) (fun _ hk => hk.2) (.slice Ao20 t468.length co20)) (fun _ hk => hk.2) (.slice Ao21 t471.length co21)) (fun _ hk => hk.2) (.slice Ao22 t474.length co22)) (fun _ h_ => h_.1))) hb); have n3_ := Aside0.mk (Kd.S_below (by (with_reducible repeat (first | apply Kd.S_alloc | apply Kd.S_drewN | apply Kd.S_drew)); exact (Kd.S_mono (Kd.S_far (p := ⟨gb477, 3, none⟩) (Kd.S_far (p := ⟨gb477, 2, none⟩) (Kd.S_far (p := ⟨gb477, 1, none⟩) (Kd.S_far (p := ⟨gb477, 0, none⟩) (Kd.S_types HO476.out BK477.out (by decide)) (fun _ hk => hk.2) (.int .i64 t467)) (fun _ hk => hk.2) (.slice Ao20 t468.length co20)) (fun _ hk => hk.2) (.slice Ao21 t471.length co21)) (fun _ hk => hk.2) (.slice Ao22 t474.length co22)) (fun _ h_ => h_.1))) hb); have n4_ := Aside0.mk (Kd.R_lower ho0 (below_size (by repeat (first | (with_reducible first | exact HB.out | apply below_alloc | apply pw_below_drewN | apply below_drew1 | refine below_set ?_ GE460.out | refine below_set ?_ GE477.out) | exact HB.out)))); have n5_ := Aside0.mk (blk_below (g := gb460) (o := .cells #[.int .i64 0, .slice none 0 0, .slice none 0 0, .slice none 0 0] 50 (0, 0)) (by (with_reducible repeat (first | refine blk_drewN ?_ _ | refine blk_drew ?_ | refine blk_alloc ?_ _)); refine blk_far ?_ NB460_477.out _; (with_reducible repeat (first | refine blk_drewN ?_ _ | refine blk_drew ?_ | refine blk_alloc ?_ _)); refine blk_far ?_ NB460_477.out _; (with_reducible repeat (first | refine blk_drewN ?_ _ | refine blk_drew ?_ | refine blk_alloc ?_ _)); refine blk_far ?_ NB460_477.out _; (with_reducible repeat (first | refine blk_drewN ?_ _ | refine blk_drew ?_ | refine blk_alloc ?_ _)); refine blk_far ?_ NB460_477.out _; (with_reducible repeat (first | refine blk_drewN ?_ _ | refine blk_drew ?_ | refine blk_alloc ?_ _)); exact BK460.out) hb); have n6_ := Aside0.mk (blk_below (g := gb477) (o := .cells #[.int .i64 t467, .slice Ao20 t468.length co20, .slice Ao21 t471.length co21, .slice Ao22 t474.length co22] 50 (0, 0)) (by (with_reducible repeat (first | refine blk_drewN ?_ _ | refine blk_drew ?_ | refine blk_alloc ?_ _)); refine blk_put (cs := #[.int .i64 t467, .slice Ao20 t468.length co20, .slice Ao21 t471.length co21, .slice none 0 0]) ?_ 3 _ rfl; (with_reducible repeat (first | refine blk_drewN ?_ _ | refine blk_drew ?_ | refine blk_alloc ?_ _)); refine blk_put (cs := #[.int .i64 t467, .slice Ao20 t468.length co20, .slice none 0 0, .slice none 0 0]) ?_ 2 _ rfl; (with_reducible repeat (first | refine blk_drewN ?_ _ | refine blk_drew ?_ | refine blk_alloc ?_ _)); refine blk_put (cs := #[.int .i64 t467, .slice none 0 0, .slice none 0 0, .slice none 0 0]) ?_ 1 _ rfl; (with_reducible repeat (first | refine blk_drewN ?_ _ | refine blk_drew ?_ | refine blk_alloc ?_ _)); refine blk_put (cs := #[.int .i64 0, .slice none 0 0, .slice none 0 0, .slice none 0 0]) ?_ 0 _ rfl; (with_reducible repeat (first | refine blk_drewN ?_ _ | refine blk_drew ?_ | refine blk_alloc ?_ _)); exact BK477.out) hb); have n7_ := Aside0.mk (below_step (by repeat (first | (with_reducible first | exact HB.out | apply below_alloc | apply pw_below_drewN | apply below_drew1 | refine below_set ?_ GE460.out | refine below_set ?_ GE477.out) | exact HB.out)) hb); clear HO_5; clear HO470; clear HO473; clear HO476; clear BK460; clear BK477; clear HB; have HO_5 := n0_; have HO470 := n1_; have HO473 := n2_; have HO476 := n3_; have HO480 := n4_; have BK460 := n5_; have BK477 := n6_; have HB := n7_; clear n0_ n1_ n2_ n3_ n4_ n5_ n6_ n7_; (try clear hb); (try clear hb2); (try clear hk); (try clear hi); (try clear ho0); obtain ⟨Ao24, co24, eo24⟩ := Kd.R_slice HO480.out; subst eo24) | ((with_reducible refine gate_callee (f := 101) rfl ?_); refine goesL_ (some 29) rfl rfl Try.func101 (by kernel_rfl) rfl #[.slice Ao24 t478.length co24, .slice A0 l0.length c0] rfl (by (try simp only [List.map_toArray, List.map_cons, List.map_nil]); first | done | rfl | (simp only [List.length_drop, List.length_take]; rfl)) ?_; (with_reducible refine (spec_l4sameBytes.calls _ _ t478 _ _ l0 true _ ?side1 ?side2 ?side3 ?side4 A13.out).mono ?_); (case side1 => repeat (first | exact (Kd.R_reads' HO480.out).2.2 | (with_reducible refine Kd.C_alloc ?_ _) | (with_reducible refine Kd.C_drewN ?_ _) | (with_reducible refine Kd.C_drew ?_))); (case side2 => exact (Kd.R_reads' HO480.out).2.1); (case side3 => repeat (first | exact (Kd.C_below HR0.out HB.out) | (with_reducible refine Kd.C_alloc ?_ _) | (with_reducible refine Kd.C_drewN ?_ _) | (with_reducible refine Kd.C_drew ?_))); (case side4 => exact HC0.out); rintro e w' ⟨rfl, ⟨nd, rfl⟩⟩; refine ⟨_, rfl, ?_⟩; (try (rw [drewN_self w23]; generalize hq_ : World.drewN w23 _ = w23; have n0_ : Aside0 (Kd.S (Kd.slice 5 (Kd.int .u8)) 33 w23 w.heap.size (fun k_ => some k_ ≠ (.slice Ao24 t478.length co24 : Value).ownBlock ∧ some k_ ≠ (.slice Ao15 t462.length co15 : Value).ownBlock) (.slice Ao20 t468.length co20) t468) := ⟨by rw [← hq_]; exact (by (with_reducible repeat (first | apply Kd.S_alloc | apply Kd.S_drewN | apply Kd.S_drew)); exact Kd.S_mono HO470.out (fun _ hk => ⟨hk.2, hk.1.2⟩))⟩; have n1_ : Aside0 (Kd.R (Kd.int .i64) 3 w23 w.heap.size (fun _ => True) (.slice Ao21 t471.length co21) t471) := ⟨by rw [← hq_]; exact (by (with_reducible repeat (first | apply Kd.R_alloc | apply Kd.R_drewN | apply Kd.R_drew)); exact HO473.out)⟩; have n2_ : Aside0 (Kd.S (Kd.slice 3 (Kd.int .i64)) 22 w23 w.heap.size (fun k_ => some k_ ≠ (.slice Ao21 t471.length co21 : Value).ownBlock) (.slice Ao22 t474.length co22) t474) := ⟨by rw [← hq_]; exact (by (with_reducible repeat (first | apply Kd.S_alloc | apply Kd.S_drewN | apply Kd.S_drew)); exact HO476.out)⟩; have n3_ : Aside0 (Kd.R (Kd.int .u8) 5 w23 w.heap.size (fun _ => True) (.slice Ao24 t478.length co24) t478) := ⟨by rw [← hq_]; exact (by (with_reducible repeat (first | apply Kd.R_alloc | apply Kd.R_drewN | apply Kd.R_drew)); exact HO480.out)⟩; have n4_ : Aside0 (Kd.S (Kd.slice 5 (Kd.int .u8)) 33 w23 w.heap.size (fun k_ => some k_ ≠ (.slice Ao20 t468.length co20 : Value).ownBlock ∧ some k_ ≠ (.slice Ao24 t478.length co24 : Value).ownBlock) (.slice Ao15 t462.length co15) t462) := ⟨by rw [← hq_]; exact (by (with_reducible repeat (first | apply Kd.S_alloc | apply Kd.S_drewN | apply Kd.S_drew)); exact Kd.S_mono HO_5.out (fun _ hk => ⟨hk.1.2, hk.2⟩))⟩; have n5_ : Aside0 (w23.heap[gb460]? = some (.cells #[.int .i64 0, .slice none 0 0, .slice none 0 0, .slice none 0 0] 50 (0, 0))) := ⟨by rw [← hq_]; exact (by (with_reducible repeat (first | refine blk_drewN ?_ _ | refine blk_drew ?_ | refine blk_alloc ?_ _)); exact BK460.out)⟩; have n6_ : Aside0 (w23.heap[gb477]? = some (.cells #[.int .i64 t467, .slice Ao20 t468.length co20, .slice Ao21 t471.length co21, .slice Ao22 t474.length co22] 50 (0, 0))) := ⟨by rw [← hq_]; exact (by (with_reducible repeat (first | refine blk_drewN ?_ _ | refine blk_drew ?_ | refine blk_alloc ?_ _)); exact BK477.out)⟩; have n7_ : Aside0 (Below w.heap.size w w23) := ⟨by rw [← hq_]; exact (by repeat (first | (with_reducible first | exact HB.out | apply below_alloc | apply pw_below_drewN | apply below_drew1 | refine below_set ?_ GE460.out | refine below_set ?_ GE477.out) | exact HB.out))⟩; clear HO470 HO473 HO476 HO480 HO_5 BK460 BK477 HB hq_; have HO470 := n0_; have HO473 := n1_; have HO476 := n2_; have HO480 := n3_; have HO_5 := n4_; have BK460 := n5_; have BK477 := n6_; have HB := n7_; clear n0_ n1_ n2_ n3_ n4_ n5_ n6_ n7_)); have hcz25_0 : w23.cell? ⟨gb477, 0, none⟩ = some (.int .i64 t467) := (blk_cell BK477.out 0).trans rfl; have hcz25_1 : w23.cell? ⟨gb477, 1, none⟩ = some (.slice Ao20 t468.length co20) := (blk_cell BK477.out 1).trans rfl; have hcz25_2 : w23.cell? ⟨gb477, 2, none⟩ = some (.slice Ao21 t471.length co21) := (blk_cell BK477.out 2).trans rfl; have hcz25_3 : w23.cell? ⟨gb477, 3, none⟩ = some (.slice Ao22 t474.length co22) := (blk_cell BK477.out 3).trans rfl; have hfz25_0 := blk_frozen BK477.out 0; have hfz25_1 := blk_frozen BK477.out 1; have hfz25_2 := blk_frozen BK477.out 2; have hfz25_3 := blk_frozen BK477.out 3; have hcz26_0 : w23.cell? ⟨gb460, 0, none⟩ = some (.int .i64 0) := (blk_cell BK460.out 0).trans rfl; have hcz26_1 : w23.cell? ⟨gb460, 1, none⟩ = some (.slice none 0 0) := (blk_cell BK460.out 1).trans rfl; have hcz26_2 : w23.cell? ⟨gb460, 2, none⟩ = some (.slice none 0 0) := (blk_cell BK460.out 2).trans rfl; have hcz26_3 : w23.cell? ⟨gb460, 3, none⟩ = some (.slice none 0 0) := (blk_cell BK460.out 3).trans rfl; have hfz26_0 := blk_frozen BK460.out 0; have hfz26_1 := blk_frozen BK460.out 1; have hfz26_2 := blk_frozen BK460.out 2; have hfz26_3 := blk_frozen BK460.out 3))
          refine bodyPost_ret (results_ct rfl _ _ gb460 50 #[.int .i64 t467, .slice Ao20 t468.length co20, .slice Ao21 t471.length co21, .slice Ao22 t474.length co22] (0, 0) _ rfl (by (with_reducible repeat (first | refine blk_drewN ?_ _ | refine blk_drew ?_ | refine blk_alloc ?_ _)); refine blk_put (cs := #[.int .i64 t467, .slice Ao20 t468.length co20, .slice Ao21 t471.length co21, .slice none 0 0]) ?_ 3 _ rfl; (with_reducible repeat (first | refine blk_drewN ?_ _ | refine blk_drew ?_ | refine blk_alloc ?_ _)); refine blk_put (cs := #[.int .i64 t467, .slice Ao20 t468.length co20, .slice none 0 0, .slice none 0 0]) ?_ 2 _ rfl; (with_reducible repeat (first | refine blk_drewN ?_ _ | refine blk_drew ?_ | refine blk_alloc ?_ _)); refine blk_put (cs := #[.int .i64 t467, .slice none 0 0, .slice none 0 0, .slice none 0 0]) ?_ 1 _ rfl; (with_reducible repeat (first | refine blk_drewN ?_ _ | refine blk_drew ?_ | refine blk_alloc ?_ _)); refine blk_put (cs := #[.int .i64 0, .slice none 0 0, .slice none 0 0, .slice none 0 0]) ?_ 0 _ rfl; (with_reducible repeat (first | refine blk_drewN ?_ _ | refine blk_drew ?_ | refine blk_alloc ?_ _)); exact BK460.out) Try.underlying50 rfl (by kernel_rfl)) rfl ?_
          exact ⟨_, _, _, by first | rfl | (simp [errW_none, errW_some] <;> rfl) | (simp [*, errW_none, errW_some] <;> rfl), by (with_reducible repeat (first | apply Kd.S_alloc | apply Kd.S_drewN | apply Kd.S_drew)); exact Kd.S_mono (Kd.S_far (p := ⟨gb460, 3, none⟩) (Kd.S_far (p := ⟨gb460, 2, none⟩) (Kd.S_far (p := ⟨gb460, 1, none⟩) (Kd.S_far (p := ⟨gb460, 0, none⟩) (Kd.S_types HO470.out BK460.out (by decide)) (fun _ hk => hk.2) (.int .i64 t467)) (fun _ hk => hk.2) (.slice Ao20 t468.length co20)) (fun _ hk => hk.2) (.slice Ao21 t471.length co21)) (fun _ hk => hk.2) (.slice Ao22 t474.length co22)) (fun _ hk => trivial), by (with_reducible repeat (first | apply Kd.R_alloc | apply Kd.R_drewN | apply Kd.R_drew)); exact Kd.R_mono (Kd.R_far (p := ⟨gb460, 3, none⟩) (Kd.R_far (p := ⟨gb460, 2, none⟩) (Kd.R_far (p := ⟨gb460, 1, none⟩) (Kd.R_far (p := ⟨gb460, 0, none⟩) (Kd.R_types HO473.out BK460.out (by decide)) (fun _ hk => hk.2) (.int .i64 t467)) (fun _ hk => hk.2) (.slice Ao20 t468.length co20)) (fun _ hk => hk.2) (.slice Ao21 t471.length co21)) (fun _ hk => hk.2) (.slice Ao22 t474.length co22)) (fun _ hk => trivial), by (with_reducible repeat (first | apply Kd.S_alloc | apply Kd.S_drewN | apply Kd.S_drew)); exact Kd.S_mono (Kd.S_far (p := ⟨gb460, 3, none⟩) (Kd.S_far (p := ⟨gb460, 2, none⟩) (Kd.S_far (p := ⟨gb460, 1, none⟩) (Kd.S_far (p := ⟨gb460, 0, none⟩) (Kd.S_types HO476.out BK460.out (by decide)) (fun _ hk => hk.2) (.int .i64 t467)) (fun _ hk => hk.2) (.slice Ao20 t468.length co20)) (fun _ hk => hk.2) (.slice Ao21 t471.length co21)) (fun _ hk => hk.2) (.slice Ao22 t474.length co22)) (fun _ hk => hk.1), by repeat (first | (with_reducible first | exact HB.out | apply below_alloc | apply pw_below_drewN | apply below_drew1 | refine below_set ?_ GE460.out | refine below_set ?_ GE477.out) | exact HB.out)⟩
        · replace c14 := Bool.eq_false_iff.mpr c14
          subst c14
          have H1 : (some (0, ([] : List (List Int)), ([] : List Int), ([] : List (List Int)), 5)) = some (r1, r2, r3, r4, r5) := by rw [if_neg (show ¬ (false = true) by decide)] at H; exact H
          clear H
          have H := H1
          clear H1
          simp only [Option.some.injEq, Prod.mk.injEq] at H
          obtain ⟨rfl, rfl, rfl, rfl, rfl⟩ := H
          obtain ⟨Ao27, co27, eo27⟩ := Kd.S_slice HO_5.out
          subst eo27
          go_wp2_with (first | ((with_reducible refine gate_callee (f := 92) rfl ?_); refine goesL_ (some 25) rfl rfl Try.func92 (by kernel_rfl) rfl #[.int .i64 t461, .slice Ao27 t462.length co27] rfl (by (try simp only [List.map_toArray, List.map_cons, List.map_nil]); first | done | rfl | (simp only [List.length_drop, List.length_take]; rfl)) ?_; (with_reducible refine (spec_l4build.calls kj2 t461 _ _ t462 t467 t468 t471 t474 _ ?side1 ?side2 A11.out).mono ?_); (case side1 => repeat (first | exact (Kd.S_reads' HO_5.out).2.2 | (with_reducible refine Kd.C_alloc ?_ _) | (with_reducible refine Kd.C_drewN ?_ _) | (with_reducible refine Kd.C_drew ?_))); (case side2 => exact (Kd.S_reads' HO_5.out).2.1); rintro e w28 ⟨v469, v472, v475, rfl, ho0, ho1, ho2, hb⟩; refine ⟨_, rfl, ?_⟩; have n0_ := Aside0.mk (Kd.S_elder' (by (with_reducible repeat (first | apply Kd.S_alloc | apply Kd.S_drewN | apply Kd.S_drew)); exact HO_5.out) (Kd.S_base ho0) hb); have n1_ := Aside0.mk (Kd.S_lower (Kd.S_new' ho0 (Kd.S_lt (by (with_reducible repeat (first | apply Kd.S_alloc | apply Kd.S_drewN | apply Kd.S_drew)); exact HO_5.out))) (below_size (by repeat (first | (with_reducible first | exact HB.out | apply below_alloc | apply pw_below_drewN | apply below_drew1 | refine below_set ?_ GE460.out) | exact HB.out)))); have n2_ := Aside0.mk (Kd.R_lower ho1 (below_size (by repeat (first | (with_reducible first | exact HB.out | apply below_alloc | apply pw_below_drewN | apply below_drew1 | refine below_set ?_ GE460.out) | exact HB.out)))); have n3_ := Aside0.mk (Kd.S_lower ho2 (below_size (by repeat (first | (with_reducible first | exact HB.out | apply below_alloc | apply pw_below_drewN | apply below_drew1 | refine below_set ?_ GE460.out) | exact HB.out)))); have n4_ := Aside0.mk (blk_below (g := gb460) (o := .cells #[.int .i64 0, .slice none 0 0, .slice none 0 0, .slice none 0 0] 50 (0, 0)) (by (with_reducible repeat (first | refine blk_drewN ?_ _ | refine blk_drew ?_ | refine blk_alloc ?_ _)); exact BK460.out) hb); have n5_ := Aside0.mk (below_step (by repeat (first | (with_reducible first | exact HB.out | apply below_alloc | apply pw_below_drewN | apply below_drew1 | refine below_set ?_ GE460.out) | exact HB.out)) hb); clear HO_5; clear BK460; clear HB; have HO_5 := n0_; have HO470 := n1_; have HO473 := n2_; have HO476 := n3_; have BK460 := n4_; have HB := n5_; clear n0_ n1_ n2_ n3_ n4_ n5_; (try clear hb); (try clear hb2); (try clear hk); (try clear hi); (try clear ho0); (try clear ho1); (try clear ho2)) | ((with_reducible refine gate_dst (N := 7) rfl ?_); refine box_event ?hg (N := 7) ?hd (cs := #[.int .i64 0, .slice none 0 0, .slice none 0 0, .slice none 0 0]) (t := 50) ?hr ?_; (case hd => rfl); (case hg => rfl); (case hr => first | (go_simp; done) | (go_simp; rfl)); intro gb477 hg w29 hbox hb; have n0_ := Aside0.mk (Kd.S_below (by (with_reducible repeat (first | apply Kd.S_alloc | apply Kd.S_drewN | apply Kd.S_drew)); exact HO_5.out) hb); have n1_ := Aside0.mk (Kd.S_below (by (with_reducible repeat (first | apply Kd.S_alloc | apply Kd.S_drewN | apply Kd.S_drew)); exact HO470.out) hb); have n2_ := Aside0.mk (Kd.R_below (by (with_reducible repeat (first | apply Kd.R_alloc | apply Kd.R_drewN | apply Kd.R_drew)); exact HO473.out) hb); have n3_ := Aside0.mk (Kd.S_below (by (with_reducible repeat (first | apply Kd.S_alloc | apply Kd.S_drewN | apply Kd.S_drew)); exact HO476.out) hb); have n4_ := Aside0.mk (blk_below (g := gb460) (o := .cells #[.int .i64 0, .slice none 0 0, .slice none 0 0, .slice none 0 0] 50 (0, 0)) (by (with_reducible repeat (first | refine blk_drewN ?_ _ | refine blk_drew ?_ | refine blk_alloc ?_ _)); exact BK460.out) hb); have n5_ := Aside0.mk (below_step (by repeat (first | (with_reducible first | exact HB.out | apply below_alloc | apply pw_below_drewN | apply below_drew1 | refine below_set ?_ GE460.out) | exact HB.out)) hb); have n6_ := Aside0.mk (hbox); have n7_ := Aside0.mk ((by rw [hg]; exact (below_size (by repeat (first | (with_reducible first | exact HB.out | apply below_alloc | apply pw_below_drewN | apply below_drew1 | refine below_set ?_ GE460.out) | exact HB.out))) : w.heap.size ≤ gb477)); have n8_ := Aside0.mk ((by rw [hg]; exact (below_size (by repeat (first | (with_reducible first | exact HB.out | apply below_alloc | apply pw_below_drewN | apply below_drew1 | refine below_set ?_ GE460.out) | exact HB.out))) : w.heap.size ≤ gb477)); have n9_ := Aside0.mk ((by rw [hg]; exact Nat.ne_of_lt (blk_lt (g := gb460) (o := .cells #[.int .i64 0, .slice none 0 0, .slice none 0 0, .slice none 0 0] 50 (0, 0)) (by (with_reducible repeat (first | refine blk_drewN ?_ _ | refine blk_drew ?_ | refine blk_alloc ?_ _)); exact BK460.out)) : gb460 ≠ gb477)); have n10_ := Aside0.mk ((by rw [hg]; exact Nat.ne_of_gt (blk_lt (g := gb460) (o := .cells #[.int .i64 0, .slice none 0 0, .slice none 0 0, .slice none 0 0] 50 (0, 0)) (by (with_reducible repeat (first | refine blk_drewN ?_ _ | refine blk_drew ?_ | refine blk_alloc ?_ _)); exact BK460.out)) : gb477 ≠ gb460)); clear HO_5; clear HO470; clear HO473; clear HO476; clear BK460; clear HB; have HO_5 := n0_; have HO470 := n1_; have HO473 := n2_; have HO476 := n3_; have BK460 := n4_; have HB := n5_; have BK477 := n6_; have GW477 := n7_; have GE477 := n8_; have NB460_477 := n9_; have NB477_460 := n10_; clear n0_ n1_ n2_ n3_ n4_ n5_ n6_ n7_ n8_ n9_ n10_; clear hb hbox hg; have hnb30 := NB477_460.out; have hnc30 := NB460_477.out; have hcz31_0 : w29.cell? ⟨gb477, 0, none⟩ = some (.int .i64 0) := (blk_cell BK477.out 0).trans rfl; have hcz31_1 : w29.cell? ⟨gb477, 1, none⟩ = some (.slice none 0 0) := (blk_cell BK477.out 1).trans rfl; have hcz31_2 : w29.cell? ⟨gb477, 2, none⟩ = some (.slice none 0 0) := (blk_cell BK477.out 2).trans rfl; have hcz31_3 : w29.cell? ⟨gb477, 3, none⟩ = some (.slice none 0 0) := (blk_cell BK477.out 3).trans rfl; have hfz31_0 := blk_frozen BK477.out 0; have hfz31_1 := blk_frozen BK477.out 1; have hfz31_2 := blk_frozen BK477.out 2; have hfz31_3 := blk_frozen BK477.out 3; obtain ⟨Ao32, co32, eo32⟩ := Kd.S_slice HO470.out; subst eo32; obtain ⟨Ao33, co33, eo33⟩ := Kd.R_slice HO473.out; subst eo33; obtain ⟨Ao34, co34, eo34⟩ := Kd.S_slice HO476.out; subst eo34) | ((with_reducible refine gate_callee (f := 102) rfl ?_); refine goesL_ (some 27) rfl rfl Try.func102 (by kernel_rfl) rfl #[.agg #[.int .i64 t467, .slice Ao32 t468.length co32, .slice Ao33 t471.length co33, .slice Ao34 t474.length co34]] rfl (by (try simp only [List.map_toArray, List.map_cons, List.map_nil]); first | done | rfl | (simp only [List.length_drop, List.length_take]; rfl)) ?_; (with_reducible refine (spec_l4encode.calls kj2 t467 _ _ t468 _ _ t471 _ _ t474 t478 _ ?side1 ?side2 ?side3 ?side4 ?side5 ?side6 A12.out).mono ?_); (case side1 => refine (Kd.S_reads' (e := 33) (base := w.heap.size) (ok := fun k_ => (True ∧ some k_ ≠ (.slice Ao27 t462.length co27 : Value).ownBlock)) (n := t468.length) (c := co32) ?_).2.2; exact (by (with_reducible repeat (first | apply Kd.S_alloc | apply Kd.S_drewN | apply Kd.S_drew)); exact (Kd.S_mono (Kd.S_far (p := ⟨gb477, 3, none⟩) (Kd.S_far (p := ⟨gb477, 2, none⟩) (Kd.S_far (p := ⟨gb477, 1, none⟩) (Kd.S_far (p := ⟨gb477, 0, none⟩) (Kd.S_types HO470.out BK477.out (by decide)) (fun _ hk => hk.2) (.int .i64 t467)) (fun _ hk => hk.2) (.slice Ao32 t468.length co32)) (fun _ hk => hk.2) (.slice Ao33 t471.length co33)) (fun _ hk => hk.2) (.slice Ao34 t474.length co34)) (fun _ h_ => h_.1)))); (case side2 => exact (Kd.S_reads' HO470.out).2.1); (case side3 => refine (Kd.R_reads' (e := 3) (base := w.heap.size) (ok := fun k_ => True) (n := t471.length) (c := co33) ?_).2.2; exact (by (with_reducible repeat (first | apply Kd.R_alloc | apply Kd.R_drewN | apply Kd.R_drew)); exact (Kd.R_mono (Kd.R_far (p := ⟨gb477, 3, none⟩) (Kd.R_far (p := ⟨gb477, 2, none⟩) (Kd.R_far (p := ⟨gb477, 1, none⟩) (Kd.R_far (p := ⟨gb477, 0, none⟩) (Kd.R_types HO473.out BK477.out (by decide)) (fun _ hk => hk.2) (.int .i64 t467)) (fun _ hk => hk.2) (.slice Ao32 t468.length co32)) (fun _ hk => hk.2) (.slice Ao33 t471.length co33)) (fun _ hk => hk.2) (.slice Ao34 t474.length co34)) (fun _ h_ => h_.1)))); (case side4 => exact (Kd.R_reads' HO473.out).2.1); (case side5 => refine (Kd.S_reads' (e := 22) (base := w.heap.size) (ok := fun k_ => some k_ ≠ (.slice Ao33 t471.length co33 : Value).ownBlock) (n := t474.length) (c := co34) ?_).2.2; exact (by (with_reducible repeat (first | apply Kd.S_alloc | apply Kd.S_drewN | apply Kd.S_drew)); exact (Kd.S_mono (Kd.S_far (p := ⟨gb477, 3, none⟩) (Kd.S_far (p := ⟨gb477, 2, none⟩) (Kd.S_far (p := ⟨gb477, 1, none⟩) (Kd.S_far (p := ⟨gb477, 0, none⟩) (Kd.S_types HO476.out BK477.out (by decide)) (fun _ hk => hk.2) (.int .i64 t467)) (fun _ hk => hk.2) (.slice Ao32 t468.length co32)) (fun _ hk => hk.2) (.slice Ao33 t471.length co33)) (fun _ hk => hk.2) (.slice Ao34 t474.length co34)) (fun _ h_ => h_.1)))); (case side6 => exact (Kd.S_reads' HO476.out).2.1); rintro e w35 ⟨v479, rfl, ho0, hb⟩; refine ⟨_, rfl, ?_⟩; have n0_ := Aside0.mk (Kd.S_elder' (by (with_reducible repeat (first | apply Kd.S_alloc | apply Kd.S_drewN | apply Kd.S_drew)); exact (Kd.S_mono (Kd.S_far (p := ⟨gb477, 3, none⟩) (Kd.S_far (p := ⟨gb477, 2, none⟩) (Kd.S_far (p := ⟨gb477, 1, none⟩) (Kd.S_far (p := ⟨gb477, 0, none⟩) (Kd.S_types HO_5.out BK477.out (by decide)) (fun _ hk => hk.2) (.int .i64 t467)) (fun _ hk => hk.2) (.slice Ao32 t468.length co32)) (fun _ hk => hk.2) (.slice Ao33 t471.length co33)) (fun _ hk => hk.2) (.slice Ao34 t474.length co34)) (fun _ h_ => h_.1))) (Kd.R_base ho0) hb); have n1_ := Aside0.mk (Kd.S_elder' (by (with_reducible repeat (first | apply Kd.S_alloc | apply Kd.S_drewN | apply Kd.S_drew)); exact (Kd.S_mono (Kd.S_far (p := ⟨gb477, 3, none⟩) (Kd.S_far (p := ⟨gb477, 2, none⟩) (Kd.S_far (p := ⟨gb477, 1, none⟩) (Kd.S_far (p := ⟨gb477, 0, none⟩) (Kd.S_types HO470.out BK477.out (by decide)) (fun _ hk => hk.2) (.int .i64 t467)) (fun _ hk => hk.2) (.slice Ao32 t468.length co32)) (fun _ hk => hk.2) (.slice Ao33 t471.length co33)) (fun _ hk => hk.2) (.slice Ao34 t474.length co34)) (fun _ h_ => h_.1))) (Kd.R_base ho0) hb); have n2_ := Aside0.mk (Kd.R_below (by (with_reducible repeat (first | apply Kd.R_alloc | apply Kd.R_drewN | apply Kd.R_drew)); exact (Kd.R_mono (Kd.R_far (p := ⟨gb477, 3, none⟩) (Kd.R_far (p := ⟨gb477, 2, none⟩) (Kd.R_far (p := ⟨gb477, 1, none⟩) (Kd.R_far (p := ⟨gb477, 0, none⟩) (Kd.R_types HO473.out BK477.out (by decide)) (fun _ hk => hk.2) (.int .i64 t467)) (fun _ hk => hk.2) (.slice Ao32 t468.length co32)) (fun _ hk => hk.2) (.slice Ao33 t471.length co33)) (fun _ hk => hk.2) (.slice Ao34 t474.length co34)) (fun _ h_ => h_.1))) hb); have n3_ := Aside0.mk (Kd.S_below (by (with_reducible repeat (first | apply Kd.S_alloc | apply Kd.S_drewN | apply Kd.S_drew)); exact (Kd.S_mono (Kd.S_far (p := ⟨gb477, 3, none⟩) (Kd.S_far (p := ⟨gb477, 2, none⟩) (Kd.S_far (p := ⟨gb477, 1, none⟩) (Kd.S_far (p := ⟨gb477, 0, none⟩) (Kd.S_types HO476.out BK477.out (by decide)) (fun _ hk => hk.2) (.int .i64 t467)) (fun _ hk => hk.2) (.slice Ao32 t468.length co32)) (fun _ hk => hk.2) (.slice Ao33 t471.length co33)) (fun _ hk => hk.2) (.slice Ao34 t474.length co34)) (fun _ h_ => h_.1))) hb); have n4_ := Aside0.mk (Kd.R_lower ho0 (below_size (by repeat (first | (with_reducible first | exact HB.out | apply below_alloc | apply pw_below_drewN | apply below_drew1 | refine below_set ?_ GE460.out | refine below_set ?_ GE477.out) | exact HB.out)))); have n5_ := Aside0.mk (blk_below (g := gb460) (o := .cells #[.int .i64 0, .slice none 0 0, .slice none 0 0, .slice none 0 0] 50 (0, 0)) (by (with_reducible repeat (first | refine blk_drewN ?_ _ | refine blk_drew ?_ | refine blk_alloc ?_ _)); refine blk_far ?_ NB460_477.out _; (with_reducible repeat (first | refine blk_drewN ?_ _ | refine blk_drew ?_ | refine blk_alloc ?_ _)); refine blk_far ?_ NB460_477.out _; (with_reducible repeat (first | refine blk_drewN ?_ _ | refine blk_drew ?_ | refine blk_alloc ?_ _)); refine blk_far ?_ NB460_477.out _; (with_reducible repeat (first | refine blk_drewN ?_ _ | refine blk_drew ?_ | refine blk_alloc ?_ _)); refine blk_far ?_ NB460_477.out _; (with_reducible repeat (first | refine blk_drewN ?_ _ | refine blk_drew ?_ | refine blk_alloc ?_ _)); exact BK460.out) hb); have n6_ := Aside0.mk (blk_below (g := gb477) (o := .cells #[.int .i64 t467, .slice Ao32 t468.length co32, .slice Ao33 t471.length co33, .slice Ao34 t474.length co34] 50 (0, 0)) (by (with_reducible repeat (first | refine blk_drewN ?_ _ | refine blk_drew ?_ | refine blk_alloc ?_ _)); refine blk_put (cs := #[.int .i64 t467, .slice Ao32 t468.length co32, .slice Ao33 t471.length co33, .slice none 0 0]) ?_ 3 _ rfl; (with_reducible repeat (first | refine blk_drewN ?_ _ | refine blk_drew ?_ | refine blk_alloc ?_ _)); refine blk_put (cs := #[.int .i64 t467, .slice Ao32 t468.length co32, .slice none 0 0, .slice none 0 0]) ?_ 2 _ rfl; (with_reducible repeat (first | refine blk_drewN ?_ _ | refine blk_drew ?_ | refine blk_alloc ?_ _)); refine blk_put (cs := #[.int .i64 t467, .slice none 0 0, .slice none 0 0, .slice none 0 0]) ?_ 1 _ rfl; (with_reducible repeat (first | refine blk_drewN ?_ _ | refine blk_drew ?_ | refine blk_alloc ?_ _)); refine blk_put (cs := #[.int .i64 0, .slice none 0 0, .slice none 0 0, .slice none 0 0]) ?_ 0 _ rfl; (with_reducible repeat (first | refine blk_drewN ?_ _ | refine blk_drew ?_ | refine blk_alloc ?_ _)); exact BK477.out) hb); have n7_ := Aside0.mk (below_step (by repeat (first | (with_reducible first | exact HB.out | apply below_alloc | apply pw_below_drewN | apply below_drew1 | refine below_set ?_ GE460.out | refine below_set ?_ GE477.out) | exact HB.out)) hb); clear HO_5; clear HO470; clear HO473; clear HO476; clear BK460; clear BK477; clear HB; have HO_5 := n0_; have HO470 := n1_; have HO473 := n2_; have HO476 := n3_; have HO480 := n4_; have BK460 := n5_; have BK477 := n6_; have HB := n7_; clear n0_ n1_ n2_ n3_ n4_ n5_ n6_ n7_; (try clear hb); (try clear hb2); (try clear hk); (try clear hi); (try clear ho0); obtain ⟨Ao36, co36, eo36⟩ := Kd.R_slice HO480.out; subst eo36) | ((with_reducible refine gate_callee (f := 101) rfl ?_); refine goesL_ (some 29) rfl rfl Try.func101 (by kernel_rfl) rfl #[.slice Ao36 t478.length co36, .slice A0 l0.length c0] rfl (by (try simp only [List.map_toArray, List.map_cons, List.map_nil]); first | done | rfl | (simp only [List.length_drop, List.length_take]; rfl)) ?_; (with_reducible refine (spec_l4sameBytes.calls _ _ t478 _ _ l0 false _ ?side1 ?side2 ?side3 ?side4 A13.out).mono ?_); (case side1 => repeat (first | exact (Kd.R_reads' HO480.out).2.2 | (with_reducible refine Kd.C_alloc ?_ _) | (with_reducible refine Kd.C_drewN ?_ _) | (with_reducible refine Kd.C_drew ?_))); (case side2 => exact (Kd.R_reads' HO480.out).2.1); (case side3 => repeat (first | exact (Kd.C_below HR0.out HB.out) | (with_reducible refine Kd.C_alloc ?_ _) | (with_reducible refine Kd.C_drewN ?_ _) | (with_reducible refine Kd.C_drew ?_))); (case side4 => exact HC0.out); rintro e w' ⟨rfl, ⟨nd, rfl⟩⟩; refine ⟨_, rfl, ?_⟩; (try (rw [drewN_self w35]; generalize hq_ : World.drewN w35 _ = w35; have n0_ : Aside0 (Kd.S (Kd.slice 5 (Kd.int .u8)) 33 w35 w.heap.size (fun k_ => some k_ ≠ (.slice Ao36 t478.length co36 : Value).ownBlock ∧ some k_ ≠ (.slice Ao27 t462.length co27 : Value).ownBlock) (.slice Ao32 t468.length co32) t468) := ⟨by rw [← hq_]; exact (by (with_reducible repeat (first | apply Kd.S_alloc | apply Kd.S_drewN | apply Kd.S_drew)); exact Kd.S_mono HO470.out (fun _ hk => ⟨hk.2, hk.1.2⟩))⟩; have n1_ : Aside0 (Kd.R (Kd.int .i64) 3 w35 w.heap.size (fun _ => True) (.slice Ao33 t471.length co33) t471) := ⟨by rw [← hq_]; exact (by (with_reducible repeat (first | apply Kd.R_alloc | apply Kd.R_drewN | apply Kd.R_drew)); exact HO473.out)⟩; have n2_ : Aside0 (Kd.S (Kd.slice 3 (Kd.int .i64)) 22 w35 w.heap.size (fun k_ => some k_ ≠ (.slice Ao33 t471.length co33 : Value).ownBlock) (.slice Ao34 t474.length co34) t474) := ⟨by rw [← hq_]; exact (by (with_reducible repeat (first | apply Kd.S_alloc | apply Kd.S_drewN | apply Kd.S_drew)); exact HO476.out)⟩; have n3_ : Aside0 (Kd.R (Kd.int .u8) 5 w35 w.heap.size (fun _ => True) (.slice Ao36 t478.length co36) t478) := ⟨by rw [← hq_]; exact (by (with_reducible repeat (first | apply Kd.R_alloc | apply Kd.R_drewN | apply Kd.R_drew)); exact HO480.out)⟩; have n4_ : Aside0 (Kd.S (Kd.slice 5 (Kd.int .u8)) 33 w35 w.heap.size (fun k_ => some k_ ≠ (.slice Ao32 t468.length co32 : Value).ownBlock ∧ some k_ ≠ (.slice Ao36 t478.length co36 : Value).ownBlock) (.slice Ao27 t462.length co27) t462) := ⟨by rw [← hq_]; exact (by (with_reducible repeat (first | apply Kd.S_alloc | apply Kd.S_drewN | apply Kd.S_drew)); exact Kd.S_mono HO_5.out (fun _ hk => ⟨hk.1.2, hk.2⟩))⟩; have n5_ : Aside0 (w35.heap[gb460]? = some (.cells #[.int .i64 0, .slice none 0 0, .slice none 0 0, .slice none 0 0] 50 (0, 0))) := ⟨by rw [← hq_]; exact (by (with_reducible repeat (first | refine blk_drewN ?_ _ | refine blk_drew ?_ | refine blk_alloc ?_ _)); exact BK460.out)⟩; have n6_ : Aside0 (w35.heap[gb477]? = some (.cells #[.int .i64 t467, .slice Ao32 t468.length co32, .slice Ao33 t471.length co33, .slice Ao34 t474.length co34] 50 (0, 0))) := ⟨by rw [← hq_]; exact (by (with_reducible repeat (first | refine blk_drewN ?_ _ | refine blk_drew ?_ | refine blk_alloc ?_ _)); exact BK477.out)⟩; have n7_ : Aside0 (Below w.heap.size w w35) := ⟨by rw [← hq_]; exact (by repeat (first | (with_reducible first | exact HB.out | apply below_alloc | apply pw_below_drewN | apply below_drew1 | refine below_set ?_ GE460.out | refine below_set ?_ GE477.out) | exact HB.out))⟩; clear HO470 HO473 HO476 HO480 HO_5 BK460 BK477 HB hq_; have HO470 := n0_; have HO473 := n1_; have HO476 := n2_; have HO480 := n3_; have HO_5 := n4_; have BK460 := n5_; have BK477 := n6_; have HB := n7_; clear n0_ n1_ n2_ n3_ n4_ n5_ n6_ n7_)); have hcz37_0 : w35.cell? ⟨gb460, 0, none⟩ = some (.int .i64 0) := (blk_cell BK460.out 0).trans rfl; have hcz37_1 : w35.cell? ⟨gb460, 1, none⟩ = some (.slice none 0 0) := (blk_cell BK460.out 1).trans rfl; have hcz37_2 : w35.cell? ⟨gb460, 2, none⟩ = some (.slice none 0 0) := (blk_cell BK460.out 2).trans rfl; have hcz37_3 : w35.cell? ⟨gb460, 3, none⟩ = some (.slice none 0 0) := (blk_cell BK460.out 3).trans rfl; have hfz37_0 := blk_frozen BK460.out 0; have hfz37_1 := blk_frozen BK460.out 1; have hfz37_2 := blk_frozen BK460.out 2; have hfz37_3 := blk_frozen BK460.out 3))
          refine bodyPost_ret (results_ct rfl _ _ gb460 50 #[.int .i64 0, .slice none 0 0, .slice none 0 0, .slice none 0 0] (0, 0) _ rfl (by (with_reducible repeat (first | refine blk_drewN ?_ _ | refine blk_drew ?_ | refine blk_alloc ?_ _)); refine blk_put (cs := #[.int .i64 0, .slice none 0 0, .slice none 0 0, .slice none 0 0]) ?_ 3 _ rfl; (with_reducible repeat (first | refine blk_drewN ?_ _ | refine blk_drew ?_ | refine blk_alloc ?_ _)); refine blk_put (cs := #[.int .i64 0, .slice none 0 0, .slice none 0 0, .slice none 0 0]) ?_ 2 _ rfl; (with_reducible repeat (first | refine blk_drewN ?_ _ | refine blk_drew ?_ | refine blk_alloc ?_ _)); refine blk_put (cs := #[.int .i64 0, .slice none 0 0, .slice none 0 0, .slice none 0 0]) ?_ 1 _ rfl; (with_reducible repeat (first | refine blk_drewN ?_ _ | refine blk_drew ?_ | refine blk_alloc ?_ _)); refine blk_put (cs := #[.int .i64 0, .slice none 0 0, .slice none 0 0, .slice none 0 0]) ?_ 0 _ rfl; (with_reducible repeat (first | refine blk_drewN ?_ _ | refine blk_drew ?_ | refine blk_alloc ?_ _)); exact BK460.out) Try.underlying50 rfl (by kernel_rfl)) rfl ?_
          exact ⟨_, _, _, by first | rfl | (simp [errW_none, errW_some] <;> rfl) | (simp [*, errW_none, errW_some] <;> rfl), by first | exact Kd.S_nil _ _ _ _ _ | exact Kd.N_nil _ _ _ _ _ | exact Kd.V_nil _ _ _ _ _ | exact Kd.Q_nil _ _ _ _ _ | exact Kd.R_nil _ _ _ _ _, by first | exact Kd.R_nil _ _ _ _ _ | exact Kd.N_nil _ _ _ _ _ | exact Kd.V_nil _ _ _ _ _ | exact Kd.Q_nil _ _ _ _ _ | exact Kd.S_nil _ _ _ _ _, by first | exact Kd.S_nil _ _ _ _ _ | exact Kd.N_nil _ _ _ _ _ | exact Kd.V_nil _ _ _ _ _ | exact Kd.Q_nil _ _ _ _ _ | exact Kd.R_nil _ _ _ _ _, by repeat (first | (with_reducible first | exact HB.out | apply below_alloc | apply pw_below_drewN | apply below_drew1 | refine below_set ?_ GE460.out | refine below_set ?_ GE477.out) | exact HB.out)⟩
end Go.Proofs.Ytmgmdnmfalepkaa.L
