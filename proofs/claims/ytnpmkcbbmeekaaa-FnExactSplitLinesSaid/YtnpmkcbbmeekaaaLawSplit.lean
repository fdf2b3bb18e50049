/- FnExactSplitLines: the law's walk, one way: it returns true. -/
import Derived.Test.YtnpmkcbbmeekaaaSplit
import Derived.Test.YtnpmkcbbmeekaaaLawB
namespace Go.Proofs.Ytnpmkcbbmeekaaa.LawSplit
open Go.RowKit Go.Proofs.YtnpmkcbbmeekaaaW.PrintWords Go.Proofs.YtnpmkcbbmeekaaaW.PrintMore Go.Proofs.Ytnpmkcbbmeekaaa.Kit Go.Proofs.Ytnpmkcbbmeekaaa.PLines Go.Proofs.Ytnpmkcbbmeekaaa.Mark Go.Proofs.Ytnpmkcbbmeekaaa.LawB Go.Proofs.Ytnpmkcbbmeekaaa.Split
set_option linter.unusedVariables false

theorem total_lines : ∀ (n : Nat) (t : List Int), t.length ≤ n → total (lines t) ≤ t.length
  | 0, t, h => by
    obtain rfl := List.length_eq_zero_iff.1 (Nat.le_zero.1 h)
    exact Nat.le_refl _
  | n + 1, t, h => by
    by_cases ht : t = []
    · subst ht; exact Nat.le_refl _
    · have : 0 < t.length := List.length_pos_iff.2 ht
      have hc := cutAt_le t
      rw [lines_step t ht]
      simp only [total]
      have := total_lines n (t.drop (cutAt t + 1)) (by rw [List.length_drop]; omega)
      rw [List.length_drop] at this
      rw [List.length_take]
      omega
theorem specC (A : Option Addr) (c : Nat) (l : List Int) (w : World) (hr : Kd.C (Kd.int .u8) w A l.length l) (hc : l.length ≤ c) (hl : l.length ≤ 1048576) :
    Calls Try.prog 26 #[.slice A l.length c] w fun e w' => ∃ A1 c1, e = .returned (.slice A1 (lines l).length c1) ∧ Kd.C kB w' A1 (lines l).length (lines l) ∧ (lines l).length ≤ c1 ∧ Below w.heap.size w w' := by
  obtain ⟨k, hk⟩ := (spec_ev l hl).rounds
  refine (S.spec_SplitLines.calls k A c l _ w hr hc hk).mono ?_
  rintro e w' ⟨v, rfl, h1, h2⟩
  obtain ⟨A1, c1, rfl, h3, h4⟩ := Kd.S_reads h1
  exact ⟨A1, c1, rfl, h4, h3, h2⟩
theorem implC (A : Option Addr) (c : Nat) (l : List Int) (w : World) (hr : Kd.C (Kd.int .u8) w A l.length l) (hc : l.length ≤ c) (hb : ∀ x ∈ l, 0 ≤ x ∧ x ≤ 255) (hl : l.length ≤ 1048576) :
    Calls Try.prog 27 #[.slice A l.length c] w fun e w' => ∃ A1 c1, e = .returned (.slice A1 (lines l).length c1) ∧ Kd.S kB 38 w' w.heap.size (fun _ => True) (.slice A1 (lines l).length c1) (lines l) ∧ Below w.heap.size w w' := by
  refine (split_calls A c l w hr hc hb hl).mono ?_
  rintro e w' ⟨v, rfl, h1, h2⟩
  obtain ⟨A1, c1, rfl⟩ := Kd.S_slice h1
  exact ⟨A1, c1, rfl, h1, h2⟩
theorem grew_drewN {w w1 : World} (h : Grew w w1) (n : Nat) : Grew w (w1.drewN n) := pw_below_drewN h n
set_option maxRecDepth 100000 in
set_option maxHeartbeats 4000000 in
theorem law_calls (A : Option Addr) (c : Nat) (l : List Int) (w : World) (hr : Kd.C (Kd.int .u8) w A l.length l) (hc : l.length ≤ c) (hb : ∀ x ∈ l, 0 ≤ x ∧ x ≤ 255) :
    Calls Try.prog 6 #[.slice A l.length c] w fun e w' => e = .returned (.bool true) ∧ Below w.heap.size w w' := by
  have HR := Aside0.mk hr
  have HX := Aside0.mk hb
  have hbig := hr.2.1
  clear hr hb
  by_cases hl : 1048576 < l.length
  · have hlz : (1048576 : Int) < (l.length : Int) := by omega
    go_enter Try.func6, Try.ntmps6
    go_wp2
    go_ret
    exact ⟨rfl, Below.refl _ _⟩
  · have hlz : ¬ (1048576 : Int) < (l.length : Int) := by omega
    have hle : l.length ≤ 1048576 := by omega
    have HLL := Aside0.mk (lines_len l.length l (Nat.le_refl _))
    have HTL := Aside0.mk (total_lines l.length l (Nat.le_refl _))
    have HL := Aside0.mk hle
    have p1 : ¬ (1 + (l.length : Int) < 0) := by omega
    have p2 : ¬ (1 + (total (lines l) : Int) < 0) := by omega
    clear hl hle
    go_enter Try.func6, Try.ntmps6
    go_wp2_with fail
    go_at_call 18
    refine (toB_calls A c l w HR.out hc HL.out).mono ?_
    rintro e w1 ⟨B1, d1, rfl, hR1, hb1⟩
    have H1 := Aside0.mk (Kd.R_reads' hR1)
    have G1 := Aside0.mk (show Grew w w1 from hb1)
    clear hR1 hb1
    go_wp2_with fail
    go_at_call 26
    refine (specC B1 d1 l w1 H1.out.2.2 H1.out.2.1 HL.out).mono ?_
    rintro e w2 ⟨B2, d2, rfl, hC2, hd2, hb2⟩
    have C2 := Aside0.mk hC2
    have D2 := Aside0.mk hd2
    have G2 := Aside0.mk (grew_trans G1.out hb2)
    clear hC2 hd2 hb2 H1 G1
    go_wp2_with fail
    go_at_call 18
    refine (toB_calls A c l w2 (Kd.C_below HR.out G2.out) hc HL.out).mono ?_
    rintro e w3 ⟨B3, d3, rfl, hR3, hb3⟩
    have R3 := Aside0.mk hR3
    have G23 := Aside0.mk (show Grew w2 w3 from hb3)
    clear hR3 hb3
    go_wp2_with fail
    go_at_call 27
    refine (implC B3 d3 l w3 (Kd.R_reads' R3.out).2.2 (Kd.R_reads' R3.out).2.1 HX.out HL.out).mono ?_
    rintro e w4 ⟨B4, d4, rfl, hS4, hb4⟩
    have S4 := Aside0.mk hS4
    have G34 := Aside0.mk (show Grew w3 w4 from hb4)
    have G24 := Aside0.mk (grew_trans G23.out hb4)
    clear hS4 hb4
    go_wp2_with fail
    go_at_call 28
    refine (eqSS_calls B4 d4 B2 d2 (lines l) w4 (Kd.S_reads' S4.out).2.2 (Kd.S_reads' S4.out).2.1 (Kd.C_below C2.out G24.out) D2.out (by have := HLL.out; have := HL.out; omega) (by have := HTL.out; have := HL.out; omega)).mono ?_
    rintro e w5 ⟨rfl, q5, rfl⟩
    have G25 := Aside0.mk (grew_drewN G24.out q5)
    have G35 := Aside0.mk (grew_drewN G34.out q5)
    have S5 := Aside0.mk (Kd.S_drewN S4.out q5)
    generalize w4.drewN q5 = w5 at G25 G35 S5
    clear S4 G34 G24
    go_wp2_with fail
    go_at_call 18
    refine (toB_calls A c l w5 (Kd.C_below HR.out (grew_trans G2.out G25.out)) hc HL.out).mono ?_
    rintro e w6 ⟨B6, d6, rfl, hR6, hb6⟩
    have R6 := Aside0.mk (Kd.R_reads' hR6)
    have G26 := Aside0.mk (grew_trans G25.out hb6)
    have G36 := Aside0.mk (grew_trans G35.out hb6)
    have S6 := Aside0.mk (Kd.S_below S5.out hb6)
    clear hR6 hb6 S5 G25 G35
    go_wp2_with fail
    go_at_call 21
    refine (eqB_calls B3 d3 B6 d6 l w6 (Kd.C_below (Kd.R_reads' R3.out).2.2 G36.out) (Kd.R_reads' R3.out).2.1 R6.out.2.2 R6.out.2.1 HL.out).mono ?_
    rintro e w7 ⟨rfl, q7, rfl⟩
    have G27 := Aside0.mk (grew_drewN G26.out q7)
    have G37 := Aside0.mk (grew_drewN G36.out q7)
    have S7 := Aside0.mk (Kd.S_drewN S6.out q7)
    generalize w6.drewN q7 = w7 at G27 G37 S7
    clear S6 G36 G26 R6
    go_wp2_with fail
    go_at_call 23
    refine (markB_calls (fun k => some k = (Value.slice B3 l.length d3).ownBlock) (.slice B3 l.length d3) l 1 w2 w7 G27.out (Kd.R_below (Kd.R_tight rfl R3.out) G37.out) (by omega) (by have := HL.out; omega)).mono ?_
    rintro e w8 ⟨rfl, _, hb8, hk8⟩
    have G28 := Aside0.mk (show Grew w2 w8 from hb8)
    have S8 := Aside0.mk (Kd.S_kept (Kd.S_bound S7.out) hk8 (fun k hk e => by have h1 := Kd.R_lt R3.out k e.symm; have h2 := hk.2.1; omega))
    clear hb8 hk8 S7 G27 G37
    go_wp2_with fail
    go_at_call 28
    refine (eqSS_calls B4 d4 B2 d2 (lines l) w8 (Kd.S_reads' S8.out).2.2 (Kd.S_reads' S8.out).2.1 (Kd.C_below C2.out G28.out) D2.out (by have := HLL.out; have := HL.out; omega) (by have := HTL.out; have := HL.out; omega)).mono ?_
    rintro e w9 ⟨rfl, q9, rfl⟩
    have G29 := Aside0.mk (grew_drewN G28.out q9)
    have S9 := Aside0.mk (Kd.S_lower (Kd.S_drewN S8.out q9) G23.out.size)
    generalize w8.drewN q9 = w9 at G29 S9
    clear S8 G28
    go_wp2_with fail
    go_at_call 29
    refine (markSS_calls _ (.slice B4 (lines l).length d4) (lines l) 1 w2 w9 G29.out S9.out (by omega) (by have := HTL.out; have := HL.out; omega) (by have := HLL.out; have := HL.out; omega)).mono ?_
    rintro e w10 ⟨rfl, hS10, hb10, _⟩
    have S10 := Aside0.mk hS10
    have G210 := Aside0.mk (show Grew w2 w10 from hb10)
    clear hS10 hb10 S9 G29
    have E10 := Aside0.mk (Kd.S_reads' S10.out)
    have L10 := Aside0.mk (markSS_len (lines l) 1)
    go_wp2_with fail
    go_at_call 30
    refine (heldSS_calls B4 d4 (lines l) 1 w10 (lines l).length rfl (by have := E10.out.2.2; rwa [L10.out] at this) (by have := E10.out.2.1; exact this) (by omega) (by have := HTL.out; have := HL.out; omega) (by have := HLL.out; have := HL.out; omega)).mono ?_
    rintro e w11 ⟨rfl, q11, rfl⟩
    have G211 := Aside0.mk (grew_drewN G210.out q11)
    have S11 := Aside0.mk (Kd.S_drewN S10.out q11)
    generalize w10.drewN q11 = w11 at G211 S11
    clear S10 G210 E10
    go_wp2_with fail
    go_at_call 18
    refine (toB_calls A c l w11 (Kd.C_below HR.out (grew_trans G2.out G211.out)) hc HL.out).mono ?_
    rintro e w12 ⟨B12, d12, rfl, hR12, hb12⟩
    have R12 := Aside0.mk (Kd.R_reads' hR12)
    have G212 := Aside0.mk (grew_trans G211.out hb12)
    have S12 := Aside0.mk (Kd.S_below S11.out hb12)
    clear hR12 hb12 S11 G211
    go_wp2_with fail
    go_at_call 27
    refine (implC B12 d12 l w12 R12.out.2.2 R12.out.2.1 HX.out HL.out).mono ?_
    rintro e w13 ⟨B13, d13, rfl, hS13, hb13⟩
    have E13 := Aside0.mk (Kd.S_reads' hS13)
    have G213 := Aside0.mk (grew_trans G212.out hb13)
    have S13 := Aside0.mk (Kd.S_below S12.out hb13)
    clear hS13 hb13 S12 G212 R12
    go_wp2_with fail
    go_at_call 28
    refine (eqSS_calls B13 d13 B2 d2 (lines l) w13 E13.out.2.2 E13.out.2.1 (Kd.C_below C2.out G213.out) D2.out (by have := HLL.out; have := HL.out; omega) (by have := HTL.out; have := HL.out; omega)).mono ?_
    rintro e w14 ⟨rfl, q14, rfl⟩
    have G214 := Aside0.mk (grew_drewN G213.out q14)
    have S14 := Aside0.mk (Kd.S_drewN S13.out q14)
    generalize w13.drewN q14 = w14 at G214 S14
    clear S13 G213 E13
    have E14 := Aside0.mk (Kd.S_reads' S14.out)
    go_wp2_with fail
    go_at_call 30
    refine (heldSS_calls B4 d4 (lines l) 1 w14 (lines l).length rfl (by have := E14.out.2.2; rwa [L10.out] at this) (by have := E14.out.2.1; exact this) (by omega) (by have := HTL.out; have := HL.out; omega) (by have := HLL.out; have := HL.out; omega)).mono ?_
    rintro e w15 ⟨rfl, q15, rfl⟩
    go_wp2
    go_ret
    exact ⟨rfl, grew_trans G2.out (grew_drewN G214.out q15)⟩
end Go.Proofs.Ytnpmkcbbmeekaaa.LawSplit
