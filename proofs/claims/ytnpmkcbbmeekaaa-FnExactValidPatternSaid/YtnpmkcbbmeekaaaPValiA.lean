/- FnExactValidPattern's pure statement: what the specification finds of a tree, in plain words. -/
import Derived.Test.YtnpmkcbbmeekaaaPTree
import Derived.Test.YtnpmkcbbmeekaaaTreeV
import Derived.Test.YtnpmkcbbmeekaaaVx3
import Derived.Test.YtnpmkcbbmeekaaaVx4
namespace Go.Proofs.Ytnpmkcbbmeekaaa.PValid
open Go.RowKit Go.Proofs.YtnpmkcbbmeekaaaW.PrintWords Go.Proofs.Ytnpmkcbbmeekaaa.PKit Go.Proofs.Ytnpmkcbbmeekaaa.Node Go.Proofs.Ytnpmkcbbmeekaaa.Tree Go.Proofs.Ytnpmkcbbmeekaaa.Canon Go.Proofs.Ytnpmkcbbmeekaaa.PTree Go.Proofs.Ytnpmkcbbmeekaaa.V
set_option linter.unusedVariables false

theorem wrap_pred (i : Nat) (h : i < 9223372036854775807) : wrap64 (((i + 1 : Nat) : Int) - 1) = (i : Int) := by
  rw [wrap_in (by omega)]
  omega
def o4 (x : S96) : Op4 := (x.f0, x.f1, x.f2, x.f3)
theorem getD_o4 (L : List S96) (i : Nat) : (L.map o4).getD i dO = o4 (L.getD i z96) := by
  simp only [List.getD, List.getElem?_map]
  cases L[i]? <;> rfl
theorem rdT (L : List S96) (i : Nat) : rd_T96 L (i : Int) = L.getD i z96 := rfl
theorem getD_mid (A B : List S96) (s : S96) (n : Nat) (h : n = A.length) : (A ++ s :: B).getD n z96 = s := by
  subst h
  simp [List.getD]

theorem okAt_odd (l : List Int) (m : Nat) (r : 0 ≤ rd l ((2 * m + 1 : Nat) : Int) ∧ rd l ((2 * m + 1 : Nat) : Int) ≤ 255) : okAt l (2 * m + 1) = decide (rd l ((2 * m : Nat) : Int) ≤ rd l ((2 * m + 1 : Nat) : Int)) := by
  unfold okAt
  have h0 : ((2 * m + 1) == 0) = false := by rw [beq_eq_false_iff_ne]; omega
  rw [decide_eq_true r.1, decide_eq_true r.2, if_pos (by omega), h0, Nat.add_sub_cancel]
  rfl
theorem okAt_even (l : List Int) (m : Nat) (hm : m ≠ 0) (r : 0 ≤ rd l ((2 * m : Nat) : Int) ∧ rd l ((2 * m : Nat) : Int) ≤ 255) : okAt l (2 * m) = decide (rd l ((2 * m - 1 : Nat) : Int) + 2 ≤ rd l ((2 * m : Nat) : Int)) := by
  unfold okAt
  have h0 : ((2 * m) == 0) = false := by rw [beq_eq_false_iff_ne]; omega
  rw [decide_eq_true r.1, decide_eq_true r.2, if_neg (by omega), h0]
  rfl
theorem okAt_zero (l : List Int) (r : 0 ≤ rd l ((0 : Nat) : Int) ∧ rd l ((0 : Nat) : Int) ≤ 255) : okAt l 0 = true := by
  unfold okAt
  rw [decide_eq_true r.1, decide_eq_true r.2]
  rfl
theorem canon_false (l : List Int) (i : Nat) (hi : i < l.length) (h : okAt l i = false) : canon l = false := by
  have : (List.range l.length).all (okAt l) = false := by
    rw [List.all_eq_false]
    exact ⟨i, List.mem_range.2 hi, by rw [h]; simp⟩
  unfold canon
  rw [this]
  simp
theorem canon_true (l : List Int) (h2 : l.length % 2 = 0) (h : ∀ j, j < l.length → okAt l j = true) : canon l = true := by
  have low : ∀ m : Nat, 2 * m < l.length → (2 * m : Int) ≤ rd l ((2 * m : Nat) : Int) := by
    intro m
    induction m with
    | zero =>
      intro hm
      have := okAt_bd (h 0 (by omega))
      exact this.1
    | succ m ih =>
      intro hm
      have a := ih (by omega)
      have b := h (2 * m + 1) (by omega)
      have c := h (2 * (m + 1)) (by omega)
      rw [okAt_odd l m (okAt_bd b), decide_eq_true_eq] at b
      rw [okAt_even l (m + 1) (by omega) (okAt_bd c), decide_eq_true_eq] at c
      have e : (2 * (m + 1) - 1 : Nat) = 2 * m + 1 := by omega
      rw [e] at c
      omega
  have hl : l.length ≤ 256 := by
    by_cases hc : l.length ≤ 256
    · exact hc
    · have a := low 128 (by omega)
      have b := okAt_bd (h (2 * 128) (by omega))
      omega
  unfold canon
  rw [decide_eq_true h2, decide_eq_true hl]
  simp only [Bool.true_and, List.all_eq_true]
  exact fun j hj => h j (List.mem_range.1 hj)
theorem canonS_ev (l : List Int) (hl : l.length ≤ 1048576) : Ev (fun k => spec_l1canon.f k l) (canon l) := by
  by_cases h2 : ((l.length : Int) % 2) = 0
  · have h2' : l.length % 2 = 0 := by omega
    have k1 : (∀ j : Nat, j < l.length → 0 ≤ rd l (j : Int) ∧ rd l (j : Int) ≤ 255) → ∀ (d m : Nat), 2 * m + 2 * d = l.length → (∀ j, j < 2 * m → okAt l j = true) → Ev (fun k => spec_l1canon.l1 k l ((2 * m : Nat) : Int)) (canon l) := by
      intro hR d
      induction d with
      | zero =>
        intro m hd h
        rw [canon_true l h2' (fun j hj => h j (by omega))]
        refine Ev.step (f := fun _ => some true) (fun k => ?_) (Ev.now _)
        simp only [spec_l1canon.l1]
        rw [wrap_succ _ (by omega), if_neg (by omega)]
      | succ d ih =>
        intro m hd h
        have r0 := hR (2 * m) (by omega)
        have r1 := hR (2 * m + 1) (by omega)
        have hw : wrap64 (((2 * m : Nat) : Int) + 1) = ((2 * m + 1 : Nat) : Int) := wrap_succ _ (by omega)
        have hw2 : wrap64 (((2 * m : Nat) : Int) + 2) = ((2 * (m + 1) : Nat) : Int) := by rw [wrap_in (by omega)]; omega
        by_cases c1 : rd l ((2 * m : Nat) : Int) > rd l ((2 * m + 1 : Nat) : Int)
        · rw [canon_false l (2 * m + 1) (by omega) (by rw [okAt_odd l m r1]; exact decide_eq_false (by omega))]
          refine Ev.step (f := fun _ => some false) (fun k => ?_) (Ev.now _)
          simp only [spec_l1canon.l1]
          rw [hw, if_pos (by omega), if_pos (by omega), if_pos (by omega), if_pos (by omega), if_pos c1]
        have okb : okAt l (2 * m + 1) = true := by rw [okAt_odd l m r1]; exact decide_eq_true (by omega)
        by_cases hm : m = 0
        · subst hm
          refine Ev.step (fun k => ?_) (ih (0 + 1) (by omega) (fun j hj => ?_))
          · simp only [spec_l1canon.l1]
            rw [hw, if_pos (by omega), if_pos (by omega), if_pos (by omega), if_pos (by omega), if_neg c1, if_neg (by omega), hw2]
          · by_cases hj0 : j = 0
            · subst hj0; exact okAt_zero l r0
            · obtain rfl : j = 2 * 0 + 1 := by omega
              exact okb
        · have hw3 : wrap64 (((2 * m : Nat) : Int) - 1) = ((2 * m - 1 : Nat) : Int) := by rw [wrap_in (by omega)]; omega
          have r2 := hR (2 * m - 1) (by omega)
          have hw4 : wrap64 (rd l ((2 * m : Nat) : Int) - rd l ((2 * m - 1 : Nat) : Int)) = rd l ((2 * m : Nat) : Int) - rd l ((2 * m - 1 : Nat) : Int) := wrap_in (by omega)
          by_cases c2 : rd l ((2 * m : Nat) : Int) - rd l ((2 * m - 1 : Nat) : Int) < 2
          · rw [canon_false l (2 * m) (by omega) (by rw [okAt_even l m hm r0]; exact decide_eq_false (by omega))]
            refine Ev.step (f := fun _ => some false) (fun k => ?_) (Ev.now _)
            simp only [spec_l1canon.l1]
            rw [hw, if_pos (by omega), if_pos (by omega), if_pos (by omega), if_pos (by omega), if_neg c1, if_pos (by omega), hw3, if_pos (by omega), if_pos (by omega), hw4, if_pos c2]
          · refine Ev.step (fun k => ?_) (ih (m + 1) (by omega) (fun j hj => ?_))
            · simp only [spec_l1canon.l1]
              rw [hw, if_pos (by omega), if_pos (by omega), if_pos (by omega), if_pos (by omega), if_neg c1, if_pos (by omega), hw3, if_pos (by omega), if_pos (by omega), hw4, if_neg c2, hw2]
            · by_cases hj0 : j < 2 * m
              · exact h j hj0
              · by_cases hj1 : j = 2 * m
                · subst hj1
                  rw [okAt_even l m hm r0]
                  exact decide_eq_true (by omega)
                · obtain rfl : j = 2 * m + 1 := by omega
                  exact okb
    have k0 : ∀ (d i : Nat), i + d = l.length → (∀ j : Nat, j < i → 0 ≤ rd l (j : Int) ∧ rd l (j : Int) ≤ 255) → Ev (fun k => spec_l1canon.l0 k l i) (canon l) := by
      intro d
      induction d with
      | zero =>
        intro i hd h
        refine Ev.step (f := fun k => spec_l1canon.l1 k l 0) (fun k => ?_) (k1 (fun j hj => h j (by omega)) (l.length / 2) 0 (by omega) (fun j hj => by omega))
        simp only [spec_l1canon.l0]
        rw [if_neg (by omega)]
      | succ d ih =>
        intro i hd h
        by_cases c0 : rd l (i : Int) < 0
        · rw [canon_false l i (by omega) (by unfold okAt; rw [decide_eq_false (by omega)]; rfl)]
          refine Ev.step (f := fun _ => some false) (fun k => ?_) (Ev.now _)
          simp only [spec_l1canon.l0]
          rw [if_pos (by omega), if_pos (by omega), if_pos c0]
        by_cases c1 : rd l (i : Int) > 255
        · rw [canon_false l i (by omega) (by unfold okAt; rw [decide_eq_false (show ¬ rd l (i : Int) ≤ 255 by omega)]; simp)]
          refine Ev.step (f := fun _ => some false) (fun k => ?_) (Ev.now _)
          simp only [spec_l1canon.l0]
          rw [if_pos (by omega), if_pos (by omega), if_neg c0, if_pos c1]
        refine Ev.step (fun k => ?_) (ih (i + 1) (by omega) (fun j hj => ?_))
        · simp only [spec_l1canon.l0]
          rw [if_pos (by omega), if_pos (by omega), if_neg c0, if_neg c1, wrap_succ i (by omega)]
        · by_cases e : j = i
          · subst e; omega
          · exact h j (by omega)
    refine Ev.congr (f := fun k => spec_l1canon.l0 k l 0) (fun k => ?_) (k0 l.length 0 (by omega) (fun j hj => by omega))
    simp only [spec_l1canon.f]
    rw [if_pos h2]
  · have : canon l = false := by
      unfold canon
      rw [decide_eq_false (show ¬ l.length % 2 = 0 by omega)]
      rfl
    rw [this]
    refine Ev.congr (f := fun _ => some false) (fun k => ?_) (Ev.now _)
    simp only [spec_l1canon.f]
    rw [if_neg h2]

theorem j1_ev (k : Int) (l : List Int) (mn mx : Int) : Ev (fun n => spec_l1opOK.j1 n k l mn mx) (if k = 4 then repIn mn mx else (mn == 0 && mx == 0)) := by
  by_cases b4 : k = 4
  · rw [if_pos b4]
    by_cases c0 : mn < 0
    · refine Ev.step (f := fun n => spec_l1opOK.j2 n true k l mn mx) (fun n => ?_) (Ev.step (f := fun _ => some false) (fun n => ?_) ?_)
      · simp only [spec_l1opOK.j1]
        rw [if_pos b4, if_pos c0]
      · simp only [spec_l1opOK.j2]
        rw [if_pos trivial]
      · have : repIn mn mx = false := by unfold repIn; rw [decide_eq_false (by omega)]; rfl
        rw [this]
        exact Ev.now _
    · refine Ev.step (f := fun n => spec_l1opOK.j2 n (decide (mn > 250)) k l mn mx) (fun n => ?_) ?_
      · simp only [spec_l1opOK.j1]
        rw [if_pos b4, if_neg c0]
      · refine Ev.step (f := fun _ => some (repIn mn mx)) (fun n => ?_) (Ev.now _)
        simp only [spec_l1opOK.j2]
        unfold repIn
        rw [decide_eq_true (show 0 ≤ mn by omega)]
        by_cases c1 : mn > 250
        · rw [decide_eq_true c1, if_pos (show true = true from rfl), decide_eq_false (show ¬ mn ≤ 250 by omega)]
          rfl
        · rw [decide_eq_false c1, if_neg (by simp), decide_eq_true (show mn ≤ 250 by omega)]
          by_cases c2 : mx = -1
          · rw [if_pos c2, c2]
            rfl
          · have h2 : (mx == -1) = false := beq_eq_false_iff_ne.mpr c2
            rw [if_neg c2, h2]
            by_cases c3 : mn ≤ mx
            · rw [if_pos c3, decide_eq_true c3]
              rfl
            · rw [if_neg c3, decide_eq_false c3]
              rfl
  · rw [if_neg b4]
    refine Ev.step (f := fun _ => some (mn == 0 && mx == 0)) (fun n => ?_) (Ev.now _)
    simp only [spec_l1opOK.j1]
    rw [if_neg b4]
    by_cases c0 : mn = 0
    · rw [if_pos c0, c0]
      rfl
    · have h2 : (mn == 0) = false := beq_eq_false_iff_ne.mpr c0
      rw [if_neg c0, h2]
      rfl
theorem op_ev (k : Int) (l : List Int) (mn mx : Int) (hl : l.length ≤ 1048576) : Ev (fun n => spec_l1opOK.f n k l mn mx) (opOK (k, l, mn, mx)) := by
  by_cases c0 : k < 0
  · have : opOK (k, l, mn, mx) = false := by
      simp only [opOK]
      rw [decide_eq_false (by omega)]
      rfl
    rw [this]
    refine Ev.congr (f := fun n => spec_l1opOK.j0 n true k l mn mx) (fun n => ?_) (Ev.step (f := fun _ => some false) (fun n => ?_) (Ev.now _))
    · simp only [spec_l1opOK.f]
      rw [if_pos c0]
    · simp only [spec_l1opOK.j0]
      rw [if_pos trivial]
  · refine Ev.congr (f := fun n => spec_l1opOK.j0 n (decide (k > 4)) k l mn mx) (fun n => ?_) ?_
    · simp only [spec_l1opOK.f]
      rw [if_neg c0]
    by_cases c4 : k > 4
    · have : opOK (k, l, mn, mx) = false := by
        simp only [opOK]
        rw [decide_eq_false (show ¬ k ≤ 4 by omega)]
        simp
      rw [this, decide_eq_true c4]
      refine Ev.step (f := fun _ => some false) (fun n => ?_) (Ev.now _)
      simp only [spec_l1opOK.j0]
      rw [if_pos trivial]
    · rw [decide_eq_false c4]
      have hop : opOK (k, l, mn, mx) = ((if k = 1 then canon l else decide (l.length = 0)) && (if k = 4 then repIn mn mx else (mn == 0 && mx == 0))) := by
        simp only [opOK]
        rw [decide_eq_true (show 0 ≤ k by omega), decide_eq_true (show k ≤ 4 by omega)]
        rfl
      rw [hop]
      obtain ⟨K1, h1⟩ := canonS_ev l hl
      obtain ⟨K2, h2⟩ := j1_ev k l mn mx
      refine ⟨K1 + K2 + 1, fun n hn => ?_⟩
      obtain ⟨n, rfl⟩ : ∃ m, n = m + 1 := ⟨n - 1, by omega⟩
      simp only [spec_l1opOK.j0]
      rw [if_neg (by simp)]
      have h2' := h2 n (by omega)
      simp only at h2'
      by_cases b1 : k = 1
      · have h1' := h1 n (by omega)
        simp only at h1'
        rw [if_pos b1, h1', Option.bind_some, if_pos b1]
        cases canon l with
        | true => rw [if_pos (show true = true from rfl), h2']; rfl
        | false => rw [if_neg (by simp)]; rfl
      · rw [if_neg b1, if_neg b1]
        by_cases hz : l.length = 0
        · rw [if_pos (by omega), decide_eq_true hz, h2']
          rfl
        · rw [if_neg (by omega), decide_eq_false hz]
          rfl

theorem need_of (o : S96) (h : opOK (o4 o) = true) : ((ar (o4 o) : Nat) : Int) - 1 = (if o.f0 = 0 ∨ o.f0 = 1 then -1 else if o.f0 = 2 ∨ o.f0 = 3 then 1 else 0) := by
  obtain ⟨k, l, mn, mx⟩ := o
  simp only [opOK, o4, Bool.and_eq_true] at h
  have h1 := of_decide_eq_true h.1.1.1
  have h2 := of_decide_eq_true h.1.1.2
  have hk : k = 0 ∨ k = 1 ∨ k = 2 ∨ k = 3 ∨ k = 4 := by omega
  rcases hk with rfl | rfl | rfl | rfl | rfl <;> simp [ar, o4]
theorem start_step (L : List S96) (hL : L.length ≤ 3000) (n : Int) (j : Nat) (hj : j < L.length) (hn : 0 < n) (hn2 : n ≤ 100000) (r n' : Int)
    (hn' : n' = n + (if (L.getD j z96).f0 = 0 ∨ (L.getD j z96).f0 = 1 then -1 else if (L.getD j z96).f0 = 2 ∨ (L.getD j z96).f0 = 3 then 1 else 0))
    (h : Ev (fun k => spec_l1start.l0 k L n' (j : Int)) r) : Ev (fun k => spec_l1start.l0 k L n ((j + 1 : Nat) : Int)) r := by
  have hw : wrap64 (((j + 1 : Nat) : Int) - 1) = (j : Int) := wrap_pred j (by omega)
  refine Ev.step (f := fun k => spec_l1start.j1 k L n ((j + 1 : Nat) : Int) true) (fun k => ?_) ?_
  · simp only [spec_l1start.l0]
    rw [if_pos (by omega), decide_eq_true (by omega)]
  refine Ev.step (f := fun k => spec_l1start.j2 k L n (j : Int) (L.getD j z96).f0 (decide ((L.getD j z96).f0 = 0) || (L.getD j z96).f0 == 1)) (fun k => ?_) ?_
  · simp only [spec_l1start.j1]
    rw [if_pos trivial, hw, if_pos (by omega), if_pos (by omega), rdT]
    by_cases c : (L.getD j z96).f0 = 0
    · rw [if_pos c, decide_eq_true c, Bool.true_or]
    · rw [if_neg c, decide_eq_false c, Bool.false_or]
  generalize (L.getD j z96).f0 = q at hn' ⊢
  refine Ev.step (f := fun k => spec_l1start.l0 k L n' (j : Int)) (fun k => ?_) h
  simp only [spec_l1start.j2]
  by_cases c : q = 0 ∨ q = 1
  · rw [if_pos c] at hn'
    have e : (decide (q = 0) || q == 1) = true := by rcases c with rfl | rfl <;> rfl
    rw [e, if_pos (show true = true from rfl), wrap_in (by omega), hn']
    rfl
  · rw [if_neg c] at hn'
    have e : (decide (q = 0) || q == 1) = false := by
      rw [decide_eq_false (by omega), beq_eq_false_iff_ne.mpr (show q ≠ 1 by omega)]
      rfl
    rw [e, if_neg (by simp)]
    by_cases c2 : q = 2
    · rw [if_pos (.inl c2)] at hn'
      rw [if_pos c2, wrap_in (by omega), hn']
    · rw [if_neg c2]
      by_cases c3 : q = 3
      · rw [if_pos (.inr c3)] at hn'
        rw [if_pos c3, wrap_in (by omega), hn']
      · rw [if_neg (by omega)] at hn'
        rw [if_neg c3, hn', Int.add_zero]
theorem shape_step (L : List S96) (hL : L.length ≤ 3000) (n : Int) (j : Nat) (hj : j < L.length) (hn : 0 < n) (hn2 : n ≤ 100000) (r : Bool) (n' : Int)
    (hn' : n' = n + (if (L.getD j z96).f0 = 0 ∨ (L.getD j z96).f0 = 1 then -1 else if (L.getD j z96).f0 = 2 ∨ (L.getD j z96).f0 = 3 then 1 else 0))
    (h : Ev (fun k => spec_l1shape.l0 k L n' ((j : Int) - 1)) r) : Ev (fun k => spec_l1shape.l0 k L n (j : Int)) r := by
  have hw : wrap64 ((j : Int) - 1) = (j : Int) - 1 := wrap_in (by omega)
  refine Ev.step (f := fun k => spec_l1shape.j1 k L n (j : Int) (L.getD j z96).f0 (decide ((L.getD j z96).f0 = 0) || (L.getD j z96).f0 == 1)) (fun k => ?_) ?_
  · simp only [spec_l1shape.l0]
    rw [if_pos (by omega), if_neg (by omega), if_pos (by omega), if_pos (by omega), rdT]
    by_cases c : (L.getD j z96).f0 = 0
    · rw [if_pos c, decide_eq_true c, Bool.true_or]
    · rw [if_neg c, decide_eq_false c, Bool.false_or]
  generalize (L.getD j z96).f0 = q at hn' ⊢
  refine Ev.step (f := fun k => spec_l1shape.l0 k L n' ((j : Int) - 1)) (fun k => ?_) h
  simp only [spec_l1shape.j1]
  rw [hw]
  by_cases c : q = 0 ∨ q = 1
  · rw [if_pos c] at hn'
    have e : (decide (q = 0) || q == 1) = true := by rcases c with rfl | rfl <;> rfl
    rw [e, if_pos (show true = true from rfl), wrap_in (by omega), hn']
    rfl
  · rw [if_neg c] at hn'
    have e : (decide (q = 0) || q == 1) = false := by
      rw [decide_eq_false (by omega), beq_eq_false_iff_ne.mpr (show q ≠ 1 by omega)]
      rfl
    rw [e, if_neg (by simp)]
    by_cases c2 : q = 2
    · rw [if_pos (.inl c2)] at hn'
      rw [if_pos c2, wrap_in (by omega), hn']
    · rw [if_neg c2]
      by_cases c3 : q = 3
      · rw [if_pos (.inr c3)] at hn'
        rw [if_pos c3, wrap_in (by omega), hn']
      · rw [if_neg (by omega)] at hn'
        rw [if_neg c3, hn', Int.add_zero]
theorem shape_ev (L : List S96) (hL : L.length ≤ 3000) (ho : ∀ o ∈ L.map o4, opOK o = true) : Ev (fun k => spec_l1shape.f k L) (decide (run (L.map o4) L.length = some 1)) := by
  have key : ∀ (i n : Nat), i ≤ L.length → n + i ≤ 10000 → Ev (fun k => spec_l1shape.l0 k L (n : Int) ((i : Int) - 1)) (decide (run (L.map o4) i = some n)) := by
    intro i
    induction i with
    | zero =>
      intro n _ hn
      refine Ev.step (f := fun _ => some (decide (run (L.map o4) 0 = some n))) (fun k => ?_) (Ev.now _)
      simp only [spec_l1shape.l0, run]
      rw [if_neg (by omega)]
      by_cases h0 : n = 0
      · subst h0; rfl
      · have e1 : decide (run (L.map o4) 0 = some n) = false := decide_eq_false (fun h => h0 (Option.some.inj h).symm)
        rw [beq_eq_false_iff_ne.mpr (show (n : Int) ≠ 0 by omega)]
        exact congrArg some e1.symm
    | succ i ih =>
      intro n hi hn
      have e : (((i + 1 : Nat) : Int) - 1) = (i : Int) := by omega
      rw [e]
      cases n with
      | zero =>
        rw [decide_eq_false (run_pos _ _)]
        refine Ev.step (f := fun _ => some false) (fun k => ?_) (Ev.now _)
        simp only [spec_l1shape.l0]
        rw [if_pos (by omega), if_pos (by omega)]
      | succ n =>
        have hr : decide (run (L.map o4) (i + 1) = some (n + 1)) = decide (run (L.map o4) i = some (n + ar ((L.map o4).getD i dO))) := by
          rw [decide_eq_decide]
          exact run_step _ _ _
        rw [hr]
        have hop : opOK (o4 (L.getD i z96)) = true := by
          rw [← getD_o4]
          refine ho _ ?_
          rw [List.getD, List.getElem?_eq_getElem (by rw [List.length_map]; omega)]
          exact List.getElem_mem _
        have hnd := need_of _ hop
        have har : ar (o4 (L.getD i z96)) ≤ 2 := by unfold ar; split <;> (try split) <;> omega
        rw [getD_o4]
        refine shape_step L hL _ i (by omega) (by omega) (by omega) _ _ ?_ (ih (n + ar (o4 (L.getD i z96))) (by omega) (by omega))
        rw [← hnd]
        omega
  refine Ev.congr (f := fun k => spec_l1shape.l0 k L ((1 : Nat) : Int) ((L.length : Int) - 1)) (fun k => ?_) (key L.length 1 (Nat.le_refl _) (by omega))
  simp only [spec_l1shape.f]
  rw [wrap_in (by omega)]
  rfl

theorem map_snoc {L : List S96} {t : List Op4} {o : Op4} (h : L.map o4 = t ++ [o]) : ∃ A s, L = A ++ [s] ∧ A.map o4 = t ∧ o4 s = o := by
  obtain ⟨A, B, rfl, h1, h2⟩ := List.map_eq_append_iff.1 h
  obtain ⟨s, r, rfl, h3, h4⟩ := List.map_eq_cons_iff.1 h2
  obtain rfl := List.map_eq_nil_iff.1 h4
  exact ⟨A, s, rfl, h1, h3⟩
theorem start_parses {t : List Op4} {x : Nd} (h : Parses t x) : ∀ (Lp Lv Lq : List S96) (m : Nat), Lv.map o4 = t → (Lp ++ Lv ++ Lq).length ≤ 3000 → m + Lv.length ≤ 50000 → ∀ r, Ev (fun k => spec_l1start.l0 k (Lp ++ Lv ++ Lq) (m : Int) (Lp.length : Int)) r →
    Ev (fun k => spec_l1start.l0 k (Lp ++ Lv ++ Lq) ((m + 1 : Nat) : Int) ((Lp.length + Lv.length : Nat) : Int)) r := by
  induction h with
  | leaf o x hk hs =>
    intro Lp Lv Lq m e hl hm r hr
    obtain ⟨A, s, rfl, h1, rfl⟩ := map_snoc (t := []) e
    obtain rfl := List.map_eq_nil_iff.1 h1
    have hg : (Lp ++ ([] ++ [s]) ++ Lq).getD Lp.length z96 = s := by
      have := getD_mid Lp Lq s Lp.length rfl
      simp at this ⊢
    refine start_step _ hl _ Lp.length (by simp) (by omega) (by omega) r m ?_ hr
    rw [hg, if_pos (show s.f0 = 0 ∨ s.f0 = 1 from hk)]
    omega
  | two o u v a b y hk hu hv hs iu iv =>
    intro Lp Lv Lq m e hl hm r hr
    obtain ⟨A, s, rfl, h1, rfl⟩ := map_snoc e
    obtain ⟨Lu, Lw, rfl, hu', hv'⟩ := List.map_eq_append_iff.1 h1
    have e1 : Lp ++ (Lu ++ Lw ++ [s]) ++ Lq = (Lp ++ Lu) ++ Lw ++ (s :: Lq) := by simp
    have e2 : Lp ++ (Lu ++ Lw ++ [s]) ++ Lq = Lp ++ Lu ++ (Lw ++ s :: Lq) := by simp
    have e3 : Lp ++ (Lu ++ Lw ++ [s]) ++ Lq = (Lp ++ Lu ++ Lw) ++ s :: Lq := by simp
    simp only [List.length_append, List.length_cons, List.length_nil] at hl hm
    have hg : (Lp ++ (Lu ++ Lw ++ [s]) ++ Lq).getD (Lp.length + (Lu.length + Lw.length)) z96 = s := by
      rw [e3]
      exact getD_mid _ _ _ _ (by simp)
    have s1 : Ev (fun k => spec_l1start.l0 k (Lp ++ (Lu ++ Lw ++ [s]) ++ Lq) ((m + 1 : Nat) : Int) ((Lp.length + Lu.length : Nat) : Int)) r := by
      rw [e2] at hr ⊢
      exact iu Lp Lu (Lw ++ s :: Lq) m hu' (by simp; omega) (by omega) r hr
    have s2 : Ev (fun k => spec_l1start.l0 k (Lp ++ (Lu ++ Lw ++ [s]) ++ Lq) ((m + 1 + 1 : Nat) : Int) ((Lp.length + (Lu.length + Lw.length) : Nat) : Int)) r := by
      rw [e1] at s1 ⊢
      have := iv (Lp ++ Lu) Lw (s :: Lq) (m + 1) hv' (by simp; omega) (by omega) r (by rw [List.length_append]; exact s1)
      rw [List.length_append, Nat.add_assoc Lp.length] at this
      exact this
    have hle : (Lu ++ Lw ++ [s]).length = Lu.length + Lw.length + 1 := by simp; omega
    rw [hle]
    refine start_step _ (by simp; omega) _ (Lp.length + (Lu.length + Lw.length)) (by simp) (by omega) (by omega) r _ ?_ s2
    rw [hg]
    have hk' : s.f0 = 2 ∨ s.f0 = 3 := hk
    rw [if_neg (by omega), if_pos hk']
    omega
  | rep o u a y hk hr0 hu hs iu =>
    intro Lp Lv Lq m e hl hm r hr
    obtain ⟨A, s, rfl, h1, rfl⟩ := map_snoc e
    have e2 : Lp ++ (A ++ [s]) ++ Lq = Lp ++ A ++ (s :: Lq) := by simp
    simp only [List.length_append, List.length_cons, List.length_nil] at hl hm
    have hg : (Lp ++ (A ++ [s]) ++ Lq).getD (Lp.length + A.length) z96 = s := by
      rw [e2]
      exact getD_mid _ _ _ _ (by simp)
    have s1 : Ev (fun k => spec_l1start.l0 k (Lp ++ (A ++ [s]) ++ Lq) ((m + 1 : Nat) : Int) ((Lp.length + A.length : Nat) : Int)) r := by
      rw [e2] at hr ⊢
      exact iu Lp A (s :: Lq) m h1 (by simp; omega) (by omega) r hr
    have hle : (A ++ [s]).length = A.length + 1 := by simp
    rw [hle]
    refine start_step _ (by simp; omega) _ (Lp.length + A.length) (by simp) (by omega) (by omega) r _ ?_ s1
    rw [hg]
    have hk' : s.f0 = 4 := hk
    rw [if_neg (by omega), if_neg (by omega)]
    omega
end Go.Proofs.Ytnpmkcbbmeekaaa.PValid
