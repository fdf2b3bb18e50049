/- impl.canonical: whether a list of numbers is a canonical set; its contract in plain words. -/
import Derived.Test.YtnpmkcbbmeekaaaPKit
import Derived.Test.YtnpmkcbbmeekaaaKit
import Derived.Test.YtnpmkcbbmeekaaaCx1
namespace Go.Proofs.Ytnpmkcbbmeekaaa.Canon
open Go.RowKit Go.Proofs.YtnpmkcbbmeekaaaW.PrintWords Go.Proofs.Ytnpmkcbbmeekaaa.PKit

/-- Entry i of a canonical list. -/
def okAt (l : List Int) (i : Nat) : Bool := decide (0 ≤ rd l i) && decide (rd l i ≤ 255) && (i == 0 || (if i % 2 = 1 then decide (rd l ((i - 1 : Nat) : Int) ≤ rd l i) else decide (rd l ((i - 1 : Nat) : Int) + 2 ≤ rd l i)))
def canon (l : List Int) : Bool := decide (l.length % 2 = 0) && decide (l.length ≤ 256) && (List.range l.length).all (okAt l)
theorem okAt_bd {l : List Int} {i : Nat} (h : okAt l i = true) : 0 ≤ rd l i ∧ rd l i ≤ 255 := by
  unfold okAt at h
  simp only [Bool.and_eq_true, decide_eq_true_eq] at h
  exact h.1
theorem canon_ev (l : List Int) (hlen : l.length ≤ 9223372036854775807) : Ev (fun k => C.impl_canonical.f k l) (canon l) := by
  have hbad : ∀ b, b = true → canon l = false → Ev (fun k => C.impl_canonical.j0 k l b) (canon l) := by
    intro b hb hc
    rw [hc, hb]
    refine Ev.step (f := fun _ => some false) (fun k => ?_) (Ev.now _)
    simp only [C.impl_canonical.j0]
    rw [if_pos trivial]
  by_cases h2 : ((l.length : Int) % 2) = 0
  · have h2' : l.length % 2 = 0 := by omega
    by_cases h256 : (l.length : Int) > 256
    · refine Ev.congr (fun k => ?_) (hbad (decide ((l.length : Int) > 256)) (decide_eq_true h256) (by
        unfold canon
        rw [decide_eq_false (show ¬ l.length ≤ 256 by omega)]
        simp))
      simp only [C.impl_canonical.f]
      rw [if_pos h2]
    · have hl : l.length ≤ 256 := by omega
      have hcan : canon l = (List.range l.length).all (okAt l) := by
        unfold canon
        rw [decide_eq_true h2', decide_eq_true hl]
        rfl
      have key : ∀ (d i : Nat), i + d = l.length → (∀ j, j < i → okAt l j = true) → Ev (fun k => C.impl_canonical.l0 k l l l.length i) (canon l) := by
        intro d
        rw [hcan]
        induction d with
        | zero =>
          intro i hd h
          have e : (List.range l.length).all (okAt l) = true := by
            rw [List.all_eq_true]
            intro j hj
            exact h j (by have := List.mem_range.1 hj; omega)
          rw [e]
          refine Ev.step (f := fun _ => some true) (fun k => ?_) (Ev.now _)
          simp only [C.impl_canonical.l0]
          rw [if_neg (by omega)]
        | succ d ih =>
          intro i hd h
          have hi : i < l.length := by omega
          have hf : okAt l i = false → (List.range l.length).all (okAt l) = false := fun hb => by
            rw [List.all_eq_false]
            exact ⟨i, List.mem_range.2 hi, by rw [hb]; simp⟩
          have hgo : okAt l i = true → Ev (fun k => C.impl_canonical.l0 k l l l.length ((i + 1 : Nat) : Int)) ((List.range l.length).all (okAt l)) := fun hb => ih (i + 1) (by omega) (fun j hj => by
            by_cases e : j = i
            · subst e; exact hb
            · exact h j (by omega))
          have hno : ∀ {P : Prop}, (∀ k, C.impl_canonical.l0 (k + 1) l l l.length i = some false) → okAt l i = false → Ev (fun k => C.impl_canonical.l0 k l l l.length i) ((List.range l.length).all (okAt l)) := fun {P} he hb => by
            rw [hf hb]
            exact Ev.step he (Ev.now _)
          by_cases c0 : rd l (i : Int) < 0
          · refine hno (P := True) (fun k => ?_) (by unfold okAt; rw [decide_eq_false (by omega)]; rfl)
            simp only [C.impl_canonical.l0]
            rw [if_pos (by omega), if_pos (by omega), if_pos (by omega), if_pos c0]
          by_cases c1 : rd l (i : Int) > 255
          · refine hno (P := True) (fun k => ?_) (by unfold okAt; rw [decide_eq_false (show ¬ rd l (i : Int) ≤ 255 by omega)]; simp)
            simp only [C.impl_canonical.l0]
            rw [if_pos (by omega), if_pos (by omega), if_pos (by omega), if_neg c0, if_pos c1]
          have d0 : decide (0 ≤ rd l (i : Int)) = true := decide_eq_true (by omega)
          have d1 : decide (rd l (i : Int) ≤ 255) = true := decide_eq_true (by omega)
          have ht : Int.tmod (i : Int) 2 = ((i % 2 : Nat) : Int) := by rw [Int.tmod_eq_emod_of_nonneg (by omega)]; omega
          by_cases ho : i % 2 = 1
          · have hw1 : wrap64 ((i : Int) - 1) = ((i - 1 : Nat) : Int) := by rw [wrap_in (by omega)]; omega
            have h0 : (i == 0) = false := by rw [beq_eq_false_iff_ne]; omega
            by_cases c2 : rd l (i : Int) < rd l ((i - 1 : Nat) : Int)
            · refine hno (P := True) (fun k => ?_) (by unfold okAt; rw [d0, d1, h0, if_pos ho, decide_eq_false (by omega)]; rfl)
              simp only [C.impl_canonical.l0]
              rw [if_pos (by omega), if_pos (by omega), if_pos (by omega), if_neg c0, if_neg c1, ht, if_pos (by omega), hw1, if_pos (by omega), if_pos (by omega), if_pos c2]
            · refine Ev.step (fun k => ?_) (hgo (by unfold okAt; rw [d0, d1, h0, if_pos ho, decide_eq_true (by omega)]; rfl))
              simp only [C.impl_canonical.l0]
              rw [if_pos (by omega), if_pos (by omega), if_pos (by omega), if_neg c0, if_neg c1, ht, if_pos (by omega), hw1, if_pos (by omega), if_pos (by omega), if_neg c2, if_neg (by omega), wrap_succ i (by omega)]
          · by_cases hz : i = 0
            · subst hz
              refine Ev.step (fun k => ?_) (hgo (by unfold okAt; rw [d0, d1]; rfl))
              simp only [C.impl_canonical.l0]
              rw [if_pos (by omega), if_pos (by omega), if_pos (by omega), if_neg c0, if_neg c1, ht, if_neg (by omega), if_pos (by omega), if_neg (by omega), wrap_succ 0 (by omega)]
            · have hw1 : wrap64 ((i : Int) - 1) = ((i - 1 : Nat) : Int) := by rw [wrap_in (by omega)]; omega
              have h0 : (i == 0) = false := by rw [beq_eq_false_iff_ne]; exact hz
              have hb0 := okAt_bd (h (i - 1) (by omega))
              have hw2 : wrap64 (rd l ((i - 1 : Nat) : Int) + 2) = rd l ((i - 1 : Nat) : Int) + 2 := wrap_in (by omega)
              by_cases c2 : rd l (i : Int) < rd l ((i - 1 : Nat) : Int) + 2
              · refine hno (P := True) (fun k => ?_) (by unfold okAt; rw [d0, d1, h0, if_neg ho, decide_eq_false (by omega)]; rfl)
                simp only [C.impl_canonical.l0]
                rw [if_pos (by omega), if_pos (by omega), if_pos (by omega), if_neg c0, if_neg c1, ht, if_neg (by omega), if_pos (by omega), if_pos (by omega), hw1, if_pos (by omega), if_pos (by omega), hw2, if_pos c2]
              · refine Ev.step (fun k => ?_) (hgo (by unfold okAt; rw [d0, d1, h0, if_neg ho, decide_eq_true (by omega)]; rfl))
                simp only [C.impl_canonical.l0]
                rw [if_pos (by omega), if_pos (by omega), if_pos (by omega), if_neg c0, if_neg c1, ht, if_neg (by omega), if_pos (by omega), if_pos (by omega), hw1, if_pos (by omega), if_pos (by omega), hw2, if_neg c2, wrap_succ i (by omega)]
      refine Ev.congr (f := fun k => C.impl_canonical.j0 k l false) (fun k => ?_) (Ev.step (f := fun k => C.impl_canonical.l0 k l l l.length 0) (fun k => ?_) (Ev.congr (fun _ => rfl) (key l.length 0 (by omega) (fun j hj => by omega))))
      · simp only [C.impl_canonical.f]
        rw [if_pos h2, decide_eq_false h256]
      · simp only [C.impl_canonical.j0]
        rw [if_neg (by simp)]
  · refine Ev.congr (fun k => ?_) (hbad true rfl (by
      unfold canon
      rw [decide_eq_false (show ¬ l.length % 2 = 0 by omega)]
      rfl))
    simp only [C.impl_canonical.f]
    rw [if_neg h2]
theorem canon_bd {l : List Int} (h : canon l = true) : l.length ≤ 256 ∧ ∀ x ∈ l, 0 ≤ x ∧ x ≤ 255 := by
  unfold canon at h
  simp only [Bool.and_eq_true, decide_eq_true_eq, List.all_eq_true] at h
  refine ⟨h.1.2, fun x hx => ?_⟩
  obtain ⟨i, hi, rfl⟩ := List.getElem_of_mem hx
  have := okAt_bd (h.2 i (List.mem_range.2 hi))
  rw [rd_get l i hi] at this
  exact this
theorem canonical_calls (A : Option Addr) (c : Nat) (l : List Int) (w : World) (hr : Kd.C (Kd.int .i64) w A l.length l) (hc : l.length ≤ c) :
    Calls Try.prog 68 #[.slice A l.length c] w fun e w' => e = .returned (.bool (canon l)) ∧ ∃ n, w' = w.drewN n := by
  obtain ⟨k, hk⟩ := (canon_ev l hr.2.1).rounds
  refine (C.impl_canonical.calls k A c l (canon l) w hr hc hk).mono ?_
  rintro e w' ⟨rfl, hd⟩
  exact ⟨rfl, hd.out⟩
end Go.Proofs.Ytnpmkcbbmeekaaa.Canon
