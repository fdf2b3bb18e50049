/- Trees in postfix, in plain words: which elements are right, and how a right list parses. No Go function is spoken of here. -/
import Derived.Test.YtnpmkcbbmeekaaaTree
namespace Go.Proofs.Ytnpmkcbbmeekaaa.PTree
open Go.Proofs.Ytnpmkcbbmeekaaa.Node Go.Proofs.Ytnpmkcbbmeekaaa.Tree Go.Proofs.Ytnpmkcbbmeekaaa.Canon
set_option linter.unusedVariables false

abbrev dO : Op4 := (0, [], 0, 0)
def ar (o : Op4) : Nat := if o.1 = 2 ∨ o.1 = 3 then 2 else if o.1 = 4 then 1 else 0
def repIn (mn mx : Int) : Bool := decide (0 ≤ mn) && decide (mn ≤ 250) && ((mx == -1) || (decide (mn ≤ mx) && decide (mx ≤ 250)))
def opOK (o : Op4) : Bool := decide (0 ≤ o.1) && decide (o.1 ≤ 4) && (if o.1 = 1 then canon o.2.1 else decide (o.2.1.length = 0)) && (if o.1 = 4 then repIn o.2.2.1 o.2.2.2 else (o.2.2.1 == 0 && o.2.2.2 == 0))
theorem repOk_eq (n : Nat) (mn mx : Int) : repOk n mn mx = (decide (1 ≤ n) && repIn mn mx) := by
  unfold repOk repIn
  have : decide ((1 : Int) ≤ (n : Int)) = decide (1 ≤ n) := by
    by_cases h : 1 ≤ n
    · rw [decide_eq_true h, decide_eq_true (by omega)]
    · rw [decide_eq_false h, decide_eq_false (by omega)]
  rw [this]
  simp only [Bool.and_assoc]
theorem push_bad (st : List Nd) (o : Op4) (h : opOK o = false) : push st o = none := by
  obtain ⟨k, l, mn, mx⟩ := o
  unfold push
  by_cases hb : bad (k, l, mn, mx) = true
  · rw [if_pos hb]
  rw [if_neg hb]
  simp only [bad, Bool.or_eq_true, Bool.and_eq_true, not_or, not_and, bne_iff_ne, ne_eq, decide_eq_true_eq] at hb
  obtain ⟨h1, h2⟩ := hb
  replace h1 : k ≠ 1 → l = [] := fun hk => List.length_eq_zero_iff.1 (Nat.le_zero.1 (Nat.not_lt.1 (h1 hk)))
  replace h2 : k ≠ 4 → mn = 0 ∧ mx = 0 := fun hk => by
    have := h2 hk
    simp at this
    exact this
  by_cases b0 : k = 0
  · subst b0
    obtain rfl := h1 (by decide)
    obtain ⟨rfl, rfl⟩ := h2 (by decide)
    exact absurd h (by simp [opOK])
  rw [if_neg b0]
  by_cases b1 : k = 1
  · subst b1
    obtain ⟨rfl, rfl⟩ := h2 (by decide)
    rw [if_pos rfl]
    by_cases hc : canon l = true
    · exact absurd h (by simp [opOK, hc])
    · rw [if_neg hc]
  rw [if_neg b1]
  obtain rfl := h1 b1
  by_cases b4 : k = 4
  · subst b4
    rw [if_neg (show ¬ (4 : Int) = 2 by decide), if_neg (show ¬ (4 : Int) = 3 by decide), if_pos rfl]
    simp only
    rw [repOk_eq]
    have : repIn mn mx = false := by
      cases hr : repIn mn mx with
      | false => rfl
      | true => exact absurd h (by simp [opOK, hr])
    rw [this]
    simp
  obtain ⟨rfl, rfl⟩ := h2 b4
  by_cases b2 : k = 2
  · subst b2
    exact absurd h (by simp [opOK])
  by_cases b3 : k = 3
  · subst b3
    exact absurd h (by simp [opOK])
  rw [if_neg b2, if_neg b3, if_neg b4]
theorem push_ok (st : List Nd) (o : Op4) (h : opOK o = true) : (push st o).map List.length = if ar o ≤ st.length then some (st.length + 1 - ar o) else none := by
  obtain ⟨k, l, mn, mx⟩ := o
  simp only [opOK, Bool.and_eq_true, decide_eq_true_eq] at h
  obtain ⟨⟨⟨h0, h1⟩, h2⟩, h3⟩ := h
  have hb : ¬ bad (k, l, mn, mx) = true := by
    simp only [bad, Bool.or_eq_true, Bool.and_eq_true, not_or, not_and, bne_iff_ne, ne_eq, decide_eq_true_eq]
    refine ⟨fun hk => ?_, fun hk => ?_⟩
    · rw [if_neg hk] at h2
      simp only [decide_eq_true_eq] at h2
      omega
    · rw [if_neg hk] at h3
      simp only [Bool.and_eq_true, beq_iff_eq] at h3
      omega
  unfold push
  rw [if_neg hb]
  have hk : k = 0 ∨ k = 1 ∨ k = 2 ∨ k = 3 ∨ k = 4 := by omega
  rcases hk with rfl | rfl | rfl | rfl | rfl
  · rw [if_pos rfl]
    simp [ar]
  · rw [if_pos rfl] at h2
    rw [if_neg (show ¬ (1 : Int) = 0 by decide), if_pos rfl, if_pos h2]
    simp [ar]
  · rw [if_neg (show ¬ (2 : Int) = 0 by decide), if_neg (show ¬ (2 : Int) = 1 by decide), if_pos rfl]
    have ha : ar (2, l, mn, mx) = 2 := by simp [ar]
    rw [ha]
    by_cases hn : 2 ≤ st.length
    · rw [if_pos hn, if_pos hn]
      simp
      omega
    · rw [if_neg hn, if_neg hn]
      rfl
  · rw [if_neg (show ¬ (3 : Int) = 0 by decide), if_neg (show ¬ (3 : Int) = 1 by decide), if_neg (show ¬ (3 : Int) = 2 by decide), if_pos rfl]
    have ha : ar (3, l, mn, mx) = 2 := by simp [ar]
    rw [ha]
    by_cases hn : 2 ≤ st.length
    · rw [if_pos hn, if_pos hn]
      simp
      omega
    · rw [if_neg hn, if_neg hn]
      rfl
  · rw [if_pos rfl] at h3
    rw [if_neg (show ¬ (4 : Int) = 0 by decide), if_neg (show ¬ (4 : Int) = 1 by decide), if_neg (show ¬ (4 : Int) = 2 by decide), if_neg (show ¬ (4 : Int) = 3 by decide), if_pos rfl]
    simp only
    have h3' : repIn mn mx = true := h3
    rw [repOk_eq, h3']
    have ha : ar (4, l, mn, mx) = 1 := by simp [ar]
    rw [ha]
    by_cases hn : 1 ≤ st.length
    · rw [decide_eq_true hn, if_pos (show (true && true) = true from rfl), if_pos hn]
      simp
    · rw [decide_eq_false hn, if_neg (by simp), if_neg hn]
      rfl
/-- The stack's height after i elements. -/
def run (t : List Op4) : Nat → Option Nat
  | 0 => some 0
  | i + 1 => (run t i).bind fun h => if ar (t.getD i dO) ≤ h then some (h + 1 - ar (t.getD i dO)) else none
theorem run_fold (t : List Op4) (h : ∀ o ∈ t, opOK o = true) : ∀ i, i ≤ t.length → (fold [] (t.take i)).map List.length = run t i
  | 0, _ => rfl
  | i + 1, hi => by
    have ih := run_fold t h i (by omega)
    rw [fold_take t i (by omega)]
    simp only [run]
    rw [← ih]
    cases fold [] (t.take i) with
    | none => rfl
    | some st => exact push_ok st _ (h _ (by rw [List.getD, List.getElem?_eq_getElem (show i < t.length by omega)]; exact List.getElem_mem _))
theorem run_pos (t : List Op4) (i : Nat) : run t (i + 1) ≠ some 0 := by
  simp only [run]
  cases run t i with
  | none => simp
  | some h =>
    simp only [Option.bind_some]
    split
    · intro e
      have := Option.some.inj e
      omega
    · simp
theorem run_step (t : List Op4) (i n : Nat) : run t (i + 1) = some (n + 1) ↔ run t i = some (n + ar (t.getD i dO)) := by
  simp only [run]
  cases run t i with
  | none => simp
  | some h =>
    simp only [Option.bind_some]
    split
    · simp only [Option.some.injEq]
      omega
    · simp only [Option.some.injEq]
      constructor
      · intro h; cases h
      · intro h; omega

inductive Parses : List Op4 → Nd → Prop where
  | leaf (o : Op4) (x : Nd) : (o.1 = 0 ∨ o.1 = 1) → size x = 1 → Parses [o] x
  | two (o : Op4) (u v : List Op4) (a b y : Nd) : (o.1 = 2 ∨ o.1 = 3) → Parses u a → Parses v b → size y = cap (size a + size b) → Parses (u ++ v ++ [o]) y
  | rep (o : Op4) (u : List Op4) (a y : Nd) : o.1 = 4 → repIn o.2.2.1 o.2.2.2 = true → Parses u a → size y = cap (repN (size a) o.2.2.1 o.2.2.2) → Parses (u ++ [o]) y
inductive Row : List Op4 → List Nd → Prop where
  | nil : Row [] []
  | snoc (t u : List Op4) (S : List Nd) (x : Nd) : Row t S → Parses u x → Row (t ++ u) (S ++ [x])
theorem Row.top {t : List Op4} {S' : List Nd} (h : Row t S') : ∀ {S : List Nd} {x : Nd}, S' = S ++ [x] → ∃ t' u, t = t' ++ u ∧ Row t' S ∧ Parses u x := by
  intro S x e
  cases h with
  | nil => simp at e
  | snoc t u S0 x0 h1 h2 =>
    obtain ⟨rfl, e2⟩ := List.append_inj' e rfl
    cases e2
    exact ⟨t, u, rfl, h1, h2⟩
theorem top_one (st : List Nd) (n : Nat) (h : st.length = n + 1) : st = st.take n ++ [st.getD n .empty] := by
  have e := List.take_succ_eq_append_getElem (i := n) (l := st) (by omega)
  rw [List.take_of_length_le (by omega)] at e
  rw [List.getD, List.getElem?_eq_getElem (by omega)]
  exact e
theorem top_two (st : List Nd) (n : Nat) (h : st.length = n + 2) : st = st.take n ++ [st.getD n .empty] ++ [st.getD (n + 1) .empty] := by
  have e := top_one st (n + 1) h
  have e2 := List.take_succ_eq_append_getElem (i := n) (l := st) (by omega)
  have e3 : st.getD n .empty = st[n] := by simp [List.getD, List.getElem?_eq_getElem (show n < st.length by omega)]
  rw [e2, ← e3] at e
  exact e
theorem set_last (st : List Nd) (n : Nat) (h : st.length = n + 1) (y : Nd) : st.set n y = st.take n ++ [y] := by
  conv => lhs; rw [top_one st n h]
  rw [List.set_append_right _ _ (by rw [List.length_take]; omega), List.length_take, Nat.min_eq_left (by omega), Nat.sub_self]
  rfl
theorem push_row {p : List Op4} {st S : List Nd} {o : Op4} (hr : Row p st) (h : push st o = some S) : Row (p ++ [o]) S := by
  obtain ⟨k, l, mn, mx⟩ := o
  unfold push at h
  split at h
  · cases h
  split at h
  · rename_i hk
    cases h
    exact .snoc _ _ _ _ hr (.leaf _ _ (.inl hk) rfl)
  split at h
  · rename_i hk
    split at h
    · cases h
      exact .snoc _ _ _ _ hr (.leaf _ _ (.inr hk) rfl)
    · cases h
  split at h
  · rename_i hk
    split at h
    · rename_i hn
      cases h
      obtain ⟨n, hn'⟩ : ∃ n, st.length = n + 2 := ⟨st.length - 2, by omega⟩
      obtain ⟨t1, v, rfl, h1, hv⟩ := hr.top (top_two st n hn')
      obtain ⟨t0, u, rfl, h0, hu⟩ := h1.top rfl
      rw [hn']
      have := Row.snoc _ _ _ (mkCat (st.getD n .empty) (st.getD (n + 1) .empty)) h0 (.two (k, l, mn, mx) u v _ _ _ (.inl hk) hu hv rfl)
      simp only [List.append_assoc] at this ⊢
      exact this
    · cases h
  split at h
  · rename_i hk
    split at h
    · rename_i hn
      cases h
      obtain ⟨n, hn'⟩ : ∃ n, st.length = n + 2 := ⟨st.length - 2, by omega⟩
      obtain ⟨t1, v, rfl, h1, hv⟩ := hr.top (top_two st n hn')
      obtain ⟨t0, u, rfl, h0, hu⟩ := h1.top rfl
      rw [hn']
      have := Row.snoc _ _ _ (mkAlt (st.getD n .empty) (st.getD (n + 1) .empty)) h0 (.two (k, l, mn, mx) u v _ _ _ (.inr hk) hu hv rfl)
      simp only [List.append_assoc] at this ⊢
      exact this
    · cases h
  split at h
  · rename_i hk
    split at h
    · rename_i hn
      cases h
      rw [repOk_eq, Bool.and_eq_true, decide_eq_true_eq] at hn
      obtain ⟨n, hn'⟩ : ∃ n, st.length = n + 1 := ⟨st.length - 1, by omega⟩
      obtain ⟨t0, u, rfl, h0, hu⟩ := hr.top (top_one st n hn')
      rw [hn', Nat.add_sub_cancel, set_last st n hn', List.append_assoc]
      exact Row.snoc _ _ _ _ h0 (.rep (k, l, mn, mx) u _ _ hk hn.2 hu rfl)
    · cases h
  · cases h
theorem fold_row (t : List Op4) : ∀ i, i ≤ t.length → ∀ S, fold [] (t.take i) = some S → Row (t.take i) S
  | 0, _, S, h => by
    cases h
    exact .nil
  | i + 1, hi, S, h => by
    rw [fold_take t i (by omega)] at h
    have e : t.take (i + 1) = t.take i ++ [t.getD i dO] := by
      rw [List.take_succ_eq_append_getElem (by omega)]
      simp [List.getD, List.getElem?_eq_getElem (show i < t.length by omega)]
    rw [e]
    cases hf : fold [] (t.take i) with
    | none => rw [hf] at h; cases h
    | some st =>
      rw [hf] at h
      exact push_row (fold_row t i (by omega) st hf) h
theorem parses_of {t : List Op4} {x : Nd} (h : fold [] t = some [x]) : Parses t x := by
  have := fold_row t t.length (Nat.le_refl _) [x] (by rw [List.take_length]; exact h)
  rw [List.take_length] at this
  obtain ⟨t', u, rfl, h1, h2⟩ := this.top (S := []) rfl
  have h0 : t' = [] := by
    generalize hS : ([] : List Nd) = S0 at h1
    cases h1 with
    | nil => rfl
    | snoc t u S x => simp at hS
  rw [h0]
  exact h2
theorem repIn_iff {mn mx : Int} (h : repIn mn mx = true) : 0 ≤ mn ∧ mn ≤ 250 ∧ (mx = -1 ∨ mn ≤ mx ∧ mx ≤ 250) := by
  simp only [repIn, Bool.and_eq_true, Bool.or_eq_true, decide_eq_true_eq, beq_iff_eq] at h
  omega
theorem parses_bd {t : List Op4} {x : Nd} (h : Parses t x) : 0 ≤ size x ∧ size x ≤ 501 := by
  induction h with
  | leaf o x hk hs => rw [hs]; omega
  | two o u v a b y hk hu hv hs iu iv => rw [hs]; exact cap_bd (by omega)
  | rep o u a y hk hr hu hs iu =>
    rw [hs]
    obtain ⟨r1, r2, r3⟩ := repIn_iff hr
    exact cap_bd (repN_nonneg iu.1 r1 (by omega))
end Go.Proofs.Ytnpmkcbbmeekaaa.PTree
