/- FnExactRunDFA's pure statement, second part: the reference's test of a table, both runs of a table, the law. -/
import Derived.Test.YtnpmkcbbmeekaaaPRunD
namespace Go.Proofs.Ytnpmkcbbmeekaaa.PRunD
open Go.RowKit Go.Proofs.YtnpmkcbbmeekaaaW.PrintWords Go.Proofs.Ytnpmkcbbmeekaaa.PKit Go.Proofs.Ytnpmkcbbmeekaaa.PLaw Go.Proofs.Ytnpmkcbbmeekaaa.Q Go.Proofs.Ytnpmkcbbmeekaaa.TableOk

def tail (cls : List Int) (k : Int) (nxt : List Int) (n : Int) : Bool := match top (-1) cls with | none => false | some t => (t == k - 1) && ((nxt.length : Int) == n * k) && !nxt.any (inR n)
theorem next_ev (cls : List Int) (k : Int) (nxt : List Int) (acc : List Bool) (n : Int) (hl : nxt.length < 4611686018427387904) : Ev (fun m => spec_l2tableOK.l1 m n 0 cls k nxt acc) (!nxt.any (inR n)) := by
  have key : ∀ (d i : Nat), i + d = nxt.length → (∀ q (h : q < nxt.length), q < i → inR n nxt[q] = false) → Ev (fun m => spec_l2tableOK.l1 m n i cls k nxt acc) (!nxt.any (inR n)) := by
    intro d
    induction d with
    | zero =>
      intro i hd h
      have e : nxt.any (inR n) = false := by
        rw [List.any_eq_false]
        intro x hx
        obtain ⟨q, hq, rfl⟩ := List.getElem_of_mem hx
        rw [h q hq (by omega)]
        simp
      rw [e]
      refine Ev.step (f := fun _ => some true) (fun m => ?_) (Ev.now _)
      simp only [spec_l2tableOK.l1]
      rw [if_neg (by omega)]
    | succ d ih =>
      intro i hd h
      have hi : i < nxt.length := by omega
      by_cases hb : inR n nxt[i] = true
      · have e : nxt.any (inR n) = true := by rw [List.any_eq_true]; exact ⟨_, List.getElem_mem hi, hb⟩
        rw [e]
        refine Ev.step (f := fun _ => some false) (fun m => ?_) (Ev.now _)
        simp only [spec_l2tableOK.l1]
        rw [if_pos (by omega), if_pos (by omega), rd_get nxt i hi]
        simp only [inR, Bool.or_eq_true, decide_eq_true_eq] at hb
        by_cases h0 : nxt[i] < 0
        · rw [if_pos h0]
        · rw [if_neg h0, if_pos (by omega)]
      · have hb' : inR n nxt[i] = false := by simpa using hb
        refine Ev.step (f := fun m => spec_l2tableOK.l1 m n ((i + 1 : Nat) : Int) cls k nxt acc) (fun m => ?_) (ih (i + 1) (by omega) (fun q hq hqi => ?_))
        · simp only [spec_l2tableOK.l1]
          simp only [inR, Bool.or_eq_false_iff, decide_eq_false_iff_not] at hb'
          rw [if_pos (by omega), if_pos (by omega), rd_get nxt i hi, if_neg hb'.1, if_neg (by omega), wrap_succ i (by omega)]
        · by_cases e : q = i
          · subst e; exact hb'
          · exact h q hq (by omega)
  exact Ev.congr (fun _ => rfl) (key nxt.length 0 (by omega) (fun q hq h => by omega))

theorem class_ev (cls : List Int) (k : Int) (nxt : List Int) (acc : List Bool) (n : Int) (hc : cls.length = 256) (hl : nxt.length < 4611686018427387904) (hn : 1 ≤ n ∧ n ≤ 1024) (hk : 1 ≤ k ∧ k ≤ 256) :
    ∀ (d i : Nat) (t : Int), i + d = 256 → -1 ≤ t → t < i → top (-1) (cls.take i) = some t → Ev (fun m => spec_l2tableOK.l0 m n t i cls k nxt acc) (tail cls k nxt n) := by
  intro d
  have hnk : wrap64 (n * k) = n * k := mul_in (by omega) (by omega) (by omega) (by omega)
  have hk1 : wrap64 (k - 1) = k - 1 := wrap_in (by omega)
  induction d with
  | zero =>
    intro i t hd ht0 ht1 hT
    rw [List.take_of_length_le (by omega)] at hT
    unfold tail
    rw [hT]
    by_cases h1 : t = k - 1
    · have hb : (t == k - 1) = true := beq_iff_eq.mpr h1
      by_cases h2 : (nxt.length : Int) = n * k
      · have hb2 : ((nxt.length : Int) == n * k) = true := beq_iff_eq.mpr h2
        simp only [hb, hb2, Bool.true_and]
        refine Ev.step (f := fun m => spec_l2tableOK.j4 m n false cls k nxt acc) (fun m => ?_) (Ev.step (f := fun m => spec_l2tableOK.l1 m n 0 cls k nxt acc) (fun m => ?_) (next_ev cls k nxt acc n hl))
        · simp only [spec_l2tableOK.l0]
          rw [if_neg (by omega), hk1, if_pos h1, hnk, bne_eq_false_iff_eq.mpr h2]
        · simp only [spec_l2tableOK.j4]
          rw [if_neg (by simp)]
      · have hb2 : ((nxt.length : Int) == n * k) = false := beq_eq_false_iff_ne.mpr h2
        simp only [hb, hb2, Bool.true_and, Bool.false_and]
        refine Ev.step (f := fun m => spec_l2tableOK.j4 m n true cls k nxt acc) (fun m => ?_) (Ev.step (f := fun _ => some false) (fun m => ?_) (Ev.now _))
        · simp only [spec_l2tableOK.l0]
          rw [if_neg (by omega), hk1, if_pos h1, hnk, bne_iff_ne.mpr h2]
        · simp only [spec_l2tableOK.j4]
          rw [if_pos trivial]
    · have hb : (t == k - 1) = false := beq_eq_false_iff_ne.mpr h1
      simp only [hb, Bool.false_and]
      refine Ev.step (f := fun m => spec_l2tableOK.j4 m n true cls k nxt acc) (fun m => ?_) (Ev.step (f := fun _ => some false) (fun m => ?_) (Ev.now _))
      · simp only [spec_l2tableOK.l0]
        rw [if_neg (by omega), hk1, if_neg h1]
      · simp only [spec_l2tableOK.j4]
        rw [if_pos trivial]
  | succ d ih =>
    intro i t hd ht0 ht1 hT
    have hi : i < cls.length := by omega
    have hs := top_take cls i hi
    rw [hT, rd_get cls i hi] at hs
    have hw : wrap64 (t + 1) = t + 1 := wrap_in (by omega)
    by_cases h0 : cls[i] < 0
    · have e : top (-1) cls = none := top_cut cls (i + 1) (by rw [hs]; simp [h0])
      unfold tail
      rw [e]
      refine Ev.step (f := fun m => spec_l2tableOK.j3 m n t i true cls k nxt acc) (fun m => ?_) (Ev.step (f := fun _ => some false) (fun m => ?_) (Ev.now _))
      · simp only [spec_l2tableOK.l0]
        rw [if_pos (by omega), if_pos (by omega), if_pos (by omega), rd_get cls i hi, if_pos h0]
      · simp only [spec_l2tableOK.j3]
        rw [if_pos trivial]
    · by_cases h1 : t + 1 < cls[i]
      · have e : top (-1) cls = none := top_cut cls (i + 1) (by rw [hs]; simp [h1])
        unfold tail
        rw [e]
        refine Ev.step (f := fun m => spec_l2tableOK.j3 m n t i true cls k nxt acc) (fun m => ?_) (Ev.step (f := fun _ => some false) (fun m => ?_) (Ev.now _))
        · simp only [spec_l2tableOK.l0]
          rw [if_pos (by omega), if_pos (by omega), if_pos (by omega), rd_get cls i hi, if_neg h0, hw, decide_eq_true (by omega)]
        · simp only [spec_l2tableOK.j3]
          rw [if_pos trivial]
      · refine Ev.step (f := fun m => spec_l2tableOK.j3 m n t i false cls k nxt acc) (fun m => ?_) ?_
        · simp only [spec_l2tableOK.l0]
          rw [if_pos (by omega), if_pos (by omega), if_pos (by omega), rd_get cls i hi, if_neg h0, hw, decide_eq_false (by omega)]
        · have hT' : top (-1) (cls.take (i + 1)) = some (max t cls[i]) := by rw [hs]; simp [h0, h1]
          by_cases hg : cls[i] > t
          · refine Ev.step (f := fun m => spec_l2tableOK.l0 m n cls[i] ((i + 1 : Nat) : Int) cls k nxt acc) (fun m => ?_) (ih (i + 1) cls[i] (by omega) (by omega) (by omega) (by rw [hT']; congr 1; omega))
            simp only [spec_l2tableOK.j3]
            rw [if_neg (by simp), if_pos (by omega), if_pos (by omega), rd_get cls i hi, if_pos hg, wrap_succ i (by omega)]
          · refine Ev.step (f := fun m => spec_l2tableOK.l0 m n t ((i + 1 : Nat) : Int) cls k nxt acc) (fun m => ?_) (ih (i + 1) t (by omega) (by omega) (by omega) (by rw [hT']; congr 1; omega))
            simp only [spec_l2tableOK.j3]
            rw [if_neg (by simp), if_pos (by omega), if_pos (by omega), rd_get cls i hi, if_neg hg, wrap_succ i (by omega)]

theorem table_ev (cls : List Int) (k : Int) (nxt : List Int) (acc : List Bool) (hl : nxt.length < 4611686018427387904) : Ev (fun m => spec_l2tableOK.f m cls k nxt acc) (ok cls k nxt acc) := by
  have hj0 : ∀ (b : Bool), b = true → sizesOk acc.length cls.length k nxt.length = false → Ev (fun m => spec_l2tableOK.j0 m acc.length b cls k nxt acc) (ok cls k nxt acc) := by
    intro b hb hs
    have e : ok cls k nxt acc = false := by unfold ok; rw [hs]; rfl
    rw [e, hb]
    refine Ev.step (f := fun _ => some false) (fun m => ?_) (Ev.now _)
    simp only [spec_l2tableOK.j0]
    rw [if_pos trivial]
  have hj1 : sizesOk acc.length cls.length k nxt.length = false → Ev (fun m => spec_l2tableOK.j1 m acc.length true cls k nxt acc) (ok cls k nxt acc) := by
    intro hs
    have e : ok cls k nxt acc = false := by unfold ok; rw [hs]; rfl
    rw [e]
    refine Ev.step (f := fun _ => some false) (fun m => ?_) (Ev.now _)
    simp only [spec_l2tableOK.j1]
    rw [if_pos trivial]
  by_cases c1 : (acc.length : Int) < 1
  · refine Ev.congr (fun m => ?_) (hj0 true rfl (by simp [sizesOk, c1]))
    simp only [spec_l2tableOK.f]
    rw [if_pos c1]
  by_cases c2 : (acc.length : Int) > 1024
  · refine Ev.congr (fun m => ?_) (hj0 (decide ((acc.length : Int) > 1024)) (decide_eq_true c2) (by simp [sizesOk]; omega))
    simp only [spec_l2tableOK.f]
    rw [if_neg c1]
  refine Ev.congr (f := fun m => spec_l2tableOK.j0 m acc.length false cls k nxt acc) (fun m => ?_) ?_
  · simp only [spec_l2tableOK.f]
    rw [if_neg c1, decide_eq_false c2]
  by_cases c3 : k < 1
  · refine Ev.step (fun m => ?_) (hj1 (by simp [sizesOk, c3]))
    simp only [spec_l2tableOK.j0]
    rw [if_neg (by simp), if_pos c3]
  by_cases c4 : k > 256
  · refine Ev.step (fun m => ?_) (hj1 (by simp [sizesOk]; omega))
    simp only [spec_l2tableOK.j0]
    rw [if_neg (by simp), if_neg c3, if_pos c4]
  by_cases c5 : (cls.length : Int) = 256
  · refine Ev.step (f := fun m => spec_l2tableOK.j1 m acc.length false cls k nxt acc) (fun m => ?_) (Ev.step (f := fun m => spec_l2tableOK.l0 m acc.length (-1) 0 cls k nxt acc) (fun m => ?_) ?_)
    · simp only [spec_l2tableOK.j0]
      rw [if_neg (by simp), if_neg c3, if_neg c4, bne_eq_false_iff_eq.mpr c5]
    · simp only [spec_l2tableOK.j1]
      rw [if_neg (by simp)]
    · have e : tail cls k nxt acc.length = ok cls k nxt acc := by
        unfold tail ok
        by_cases c6 : (nxt.length : Int) = acc.length * k
        · have hs : sizesOk acc.length cls.length k nxt.length = true := by
            have a1 : ¬ (1024 : Int) < acc.length := by omega
            have a2 : ¬ (256 : Int) < k := by omega
            simp [sizesOk, c1, a1, c3, a2, c5, c6]
          rw [hs, beq_iff_eq.mpr c6]
          cases top (-1) cls <;> simp
        · have hs : sizesOk acc.length cls.length k nxt.length = false := by simp [sizesOk, c6]
          rw [hs, beq_eq_false_iff_ne.mpr c6]
          cases top (-1) cls <;> simp
      rw [← e]
      exact Ev.congr (fun _ => rfl) (class_ev cls k nxt acc acc.length (by omega) hl (by omega) (by omega) 256 0 (-1) (by omega) (by omega) (by omega) rfl)
  · refine Ev.step (fun m => ?_) (hj1 (by simp only [sizesOk, bne_iff_ne.mpr c5]; simp))
    simp only [spec_l2tableOK.j0]
    rw [if_neg (by simp), if_neg c3, if_neg c4, bne_iff_ne.mpr c5]
end Go.Proofs.Ytnpmkcbbmeekaaa.PRunD
