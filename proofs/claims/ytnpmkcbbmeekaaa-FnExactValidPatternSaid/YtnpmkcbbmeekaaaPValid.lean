/- FnExactValidPattern's pure statement: sizes, the whole check, the law. -/
import Derived.Test.YtnpmkcbbmeekaaaPValiA
import Derived.Test.YtnpmkcbbmeekaaaVx6
import Derived.OpenShut
namespace Go.Proofs.Ytnpmkcbbmeekaaa.PValid
open Go.RowKit Go.Proofs.YtnpmkcbbmeekaaaW.PrintWords Go.Proofs.Ytnpmkcbbmeekaaa.PKit Go.Proofs.Ytnpmkcbbmeekaaa.Node Go.Proofs.Ytnpmkcbbmeekaaa.Tree Go.Proofs.Ytnpmkcbbmeekaaa.Canon Go.Proofs.Ytnpmkcbbmeekaaa.PTree Go.Proofs.Ytnpmkcbbmeekaaa.V
set_option linter.unusedVariables false

theorem cap_eq (n : Int) : (if n > 500 then some (501 : Int) else some n) = some (cap n) := by
  unfold cap
  by_cases h : n > 501
  · rw [if_pos (by omega), if_pos h]
  · rw [if_neg (show ¬ 501 < n by omega)]
    by_cases h5 : n > 500
    · rw [if_pos h5]
      exact congrArg some (by omega)
    · rw [if_neg h5]
theorem size_step (A : List S96) (s : S96) (hl : (A ++ [s]).length ≤ 3000) (r : Int)
    (h : Ev (fun k => spec_l1size.j0 k (A ++ [s]) ((A ++ [s]).length : Int) 1 (decide (s.f0 = 2) || s.f0 == 3) s.f0 s.f1 s.f2 s.f3) r) : Ev (fun k => spec_l1size.f k (A ++ [s])) r := by
  have hle : (A ++ [s]).length = A.length + 1 := by simp
  have hw : wrap64 (((A ++ [s]).length : Int) - 1) = (A.length : Int) := by rw [hle]; exact wrap_pred _ (by omega)
  have hg : rd_T96 (A ++ [s]) (A.length : Int) = s := getD_mid A [] s A.length rfl
  refine Ev.step (fun k => ?_) h
  simp only [spec_l1size.f]
  rw [hw, if_pos (by omega), if_pos (by omega), hg]
  by_cases c : s.f0 = 2
  · rw [if_pos c, decide_eq_true c, Bool.true_or]
  · rw [if_neg c, decide_eq_false c, Bool.false_or]
theorem mul_bd {a b : Int} (a0 : 0 ≤ a) (a1 : a ≤ 1000) (b0 : 0 ≤ b) (b1 : b ≤ 1000) : 0 ≤ a * b ∧ a * b ≤ 1000000 := by
  refine ⟨Int.mul_nonneg a0 b0, ?_⟩
  have : a * b ≤ 1000 * 1000 := Int.mul_le_mul a1 b1 b0 (by omega)
  omega
theorem size_ev {t : List Op4} {x : Nd} (h : Parses t x) : ∀ L : List S96, L.map o4 = t → L.length ≤ 3000 → Ev (fun k => spec_l1size.f k L) (size x) := by
  induction h with
  | leaf o x hk hs =>
    intro L e hl
    obtain ⟨A, s, rfl, h1, rfl⟩ := map_snoc (t := []) e
    have hk' : s.f0 = 0 ∨ s.f0 = 1 := hk
    refine size_step A s hl _ ?_
    have e0 : (decide (s.f0 = 2) || s.f0 == 3) = false := by
      rw [decide_eq_false (by omega), beq_eq_false_iff_ne.mpr (show s.f0 ≠ 3 by omega)]
      rfl
    rw [e0, hs]
    refine Ev.step (f := fun _ => some 1) (fun k => ?_) (Ev.now _)
    simp only [spec_l1size.j0]
    rw [if_neg (by simp), if_neg (by omega), if_neg (by omega)]
  | two o u v a b y hk hu hv hs iu iv =>
    intro L e hl
    obtain ⟨A, s, rfl, h1, rfl⟩ := map_snoc e
    obtain ⟨Lu, Lw, rfl, hu', hv'⟩ := List.map_eq_append_iff.1 h1
    have hk' : s.f0 = 2 ∨ s.f0 = 3 := hk
    have hle : ((Lu ++ Lw ++ [s]).length : Int) = (Lu.length : Int) + Lw.length + 1 := by simp; omega
    have hl' : Lu.length + Lw.length + 1 ≤ 3000 := by have := hl; simp at this; omega
    have ba := parses_bd hu
    have bb := parses_bd hv
    refine size_step _ s hl _ ?_
    have e0 : (decide (s.f0 = 2) || s.f0 == 3) = true := by rcases hk' with h | h <;> rw [h] <;> rfl
    rw [e0, hs]
    have hw : wrap64 (((Lu ++ Lw ++ [s]).length : Int) - 1) = ((Lu.length + Lw.length : Nat) : Int) := by rw [hle, wrap_in (by omega)]; omega
    obtain ⟨K1, h1⟩ : Ev (fun k => spec_l1start.f k (Lu ++ Lw ++ [s]) ((Lu.length + Lw.length : Nat) : Int)) (Lu.length : Int) := by
      have := start_parses hv Lu Lw [s] 0 hv' hl (by omega) (Lu.length : Int) (Ev.step (f := fun k => spec_l1start.j1 k (Lu ++ Lw ++ [s]) 0 (Lu.length : Int) false) (fun k => by
        simp only [spec_l1start.l0]
        by_cases c : (Lu.length : Int) > 0
        · rw [if_pos c]; rfl
        · rw [if_neg c]; rfl) (Ev.step (f := fun _ => some (Lu.length : Int)) (fun k => by
        simp only [spec_l1start.j1]
        rw [if_neg (by simp)]) (Ev.now _)))
      exact Ev.congr (fun k => by simp only [spec_l1start.f]; rfl) this
    obtain ⟨K2, h2⟩ := iu Lu hu' (by omega)
    obtain ⟨K3, h3⟩ := iv Lw hv' (by omega)
    refine ⟨K1 + K2 + K3 + 1, fun n hn => ?_⟩
    obtain ⟨n, rfl⟩ : ∃ m, n = m + 1 := ⟨n - 1, by omega⟩
    have h1' := h1 n (by omega)
    have h2' := h2 n (by omega)
    have h3' := h3 n (by omega)
    simp only at h1' h2' h3'
    have t1 : (Lu ++ Lw ++ [s]).take Lu.length = Lu := by simp
    have t2 : ((Lu ++ Lw ++ [s]).take (Lu.length + Lw.length)).drop Lu.length = Lw := by
      have : (Lu ++ Lw ++ [s]).take (Lu.length + Lw.length) = Lu ++ Lw := by
        rw [← List.length_append]
        exact List.take_left
      rw [this]
      exact List.drop_left
    simp only [spec_l1size.j0]
    rw [if_pos trivial, hw, h1', Option.bind_some, if_pos (by omega), if_pos (by omega), Int.toNat_natCast, t1, h2', Option.bind_some, if_pos (by omega), if_pos (by omega), Int.toNat_natCast, t2, h3', Option.bind_some, wrap_in (by omega)]
    exact cap_eq _
  | rep o u a y hk hr0 hu hs iu =>
    intro L e hl
    obtain ⟨A, s, rfl, h1, rfl⟩ := map_snoc e
    have hk' : s.f0 = 4 := hk
    have hle : ((A ++ [s]).length : Int) = (A.length : Int) + 1 := by simp
    have hl' : A.length + 1 ≤ 3000 := by have := hl; simp at this; omega
    have ba := parses_bd hu
    obtain ⟨r1, r2, r3⟩ := repIn_iff hr0
    replace r1 : 0 ≤ s.f2 := r1
    replace r2 : s.f2 ≤ 250 := r2
    replace r3 : s.f3 = -1 ∨ s.f2 ≤ s.f3 ∧ s.f3 ≤ 250 := r3
    refine size_step _ s hl _ ?_
    have e0 : (decide (s.f0 = 2) || s.f0 == 3) = false := by rw [hk']; rfl
    rw [e0, hs]
    have hw : wrap64 (((A ++ [s]).length : Int) - 1) = ((A.length : Nat) : Int) := by rw [hle, wrap_in (by omega)]; omega
    obtain ⟨K2, h2⟩ := iu A h1 (by omega)
    refine ⟨K2 + 1, fun n hn => ?_⟩
    obtain ⟨n, rfl⟩ : ∃ m, n = m + 1 := ⟨n - 1, by omega⟩
    have h2' := h2 n (by omega)
    simp only at h2'
    have t1 : (A ++ [s]).take A.length = A := List.take_left
    simp only [spec_l1size.j0]
    rw [if_neg (by simp), if_pos hk', hw, if_pos (by omega), if_pos (by omega), Int.toNat_natCast, t1, h2', Option.bind_some]
    show _ = some (cap (repN (size a) s.f2 s.f3))
    generalize size a = z at ba
    have m0 := mul_bd r1 (by omega) ba.1 (by omega)
    by_cases c1 : s.f3 = -1
    · rw [if_pos c1]
      have hrep : repN z s.f2 s.f3 = max 1 s.f2 * z + 1 := if_pos c1
      rw [hrep]
      by_cases c2 : s.f2 < 1
      · have : max 1 s.f2 = 1 := by omega
        rw [if_pos c2, this, wrap_in (x := 1 * z) (by omega), wrap_in (by omega)]
        exact cap_eq _
      · have : max 1 s.f2 = s.f2 := by omega
        rw [if_neg c2, this, wrap_in (x := s.f2 * z) (by omega), wrap_in (by omega)]
        exact cap_eq _
    · rw [if_neg c1]
      by_cases c2 : s.f3 = 0
      · have hrep : repN z s.f2 s.f3 = z := by unfold repN; rw [if_neg c1, if_pos c2]
        rw [if_pos c2, hrep]
        exact cap_eq _
      · have hrep : repN z s.f2 s.f3 = s.f2 * z + (s.f3 - s.f2) * (z + 1) := by unfold repN; rw [if_neg c1, if_neg c2]
        have m1 := mul_bd (a := s.f3 - s.f2) (b := z + 1) (by omega) (by omega) (by omega) (by omega)
        rw [if_neg c2, hrep, wrap_in (x := s.f2 * z) (by omega), wrap_in (x := s.f3 - s.f2) (by omega), wrap_in (x := z + 1) (by omega), wrap_in (x := (s.f3 - s.f2) * (z + 1)) (by omega), wrap_in (by omega)]
        exact cap_eq _

theorem tree_eq (T : List Op4) (h1 : 1 ≤ T.length) (h2 : T.length ≤ 3000) : tree T = (fold [] T).bind fun st => if st.length = 1 then (if size (st.getD 0 .empty) ≤ 500 then some (st.getD 0 .empty) else none) else none := by
  unfold tree
  rw [if_neg (by omega)]
theorem valid_ev (L : List S96) (hL : L.length ≤ 1048576) (hs : ∀ x ∈ L, x.f1.length ≤ 1048576) : Ev (fun k => spec_l1treeOK.f k L) (validP (L.map o4)) := by
  have hbad : ∀ b, b = true → validP (L.map o4) = false → Ev (fun k => spec_l1treeOK.j0 k L b) (validP (L.map o4)) := by
    intro b hb hv
    rw [hv, hb]
    refine Ev.step (f := fun _ => some false) (fun k => ?_) (Ev.now _)
    simp only [spec_l1treeOK.j0]
    rw [if_pos trivial]
  have hlen : (L.map o4).length = L.length := List.length_map _
  by_cases h1 : (L.length : Int) < 1
  · refine Ev.congr (fun k => ?_) (hbad true rfl (by unfold validP tree; rw [if_pos (by omega)]; rfl))
    simp only [spec_l1treeOK.f]
    rw [if_pos h1]
  by_cases h3 : (L.length : Int) > 3000
  · refine Ev.congr (fun k => ?_) (hbad (decide ((L.length : Int) > 3000)) (decide_eq_true h3) (by unfold validP tree; rw [if_pos (by omega)]; rfl))
    simp only [spec_l1treeOK.f]
    rw [if_neg h1]
  have hl3 : L.length ≤ 3000 := by omega
  have key : ∀ (d i : Nat), i + d = L.length → (∀ j, j < i → opOK ((L.map o4).getD j dO) = true) → Ev (fun k => spec_l1treeOK.l0 k L i) (validP (L.map o4)) := by
    intro d
    induction d with
    | zero =>
      intro i hd h
      obtain rfl : i = L.length := by omega
      have hall : ∀ o ∈ L.map o4, opOK o = true := by
        intro o ho
        obtain ⟨j, hj, rfl⟩ := List.getElem_of_mem ho
        have := h j (by omega)
        rwa [List.getD, List.getElem?_eq_getElem hj] at this
      have hrun := run_fold (L.map o4) hall L.length (by omega)
      rw [List.take_of_length_le (by omega)] at hrun
      obtain ⟨K1, g1⟩ := shape_ev L hl3 hall
      rw [← hrun] at g1
      have hv : validP (L.map o4) = ((fold [] (L.map o4)).bind fun st => if st.length = 1 then (if size (st.getD 0 .empty) ≤ 500 then some (st.getD 0 .empty) else none) else none).isSome := by
        unfold validP
        rw [tree_eq _ (by omega) (by omega)]
      rw [hv]
      have hno : decide ((fold [] (L.map o4)).map List.length = some 1) = false → ((fold [] (L.map o4)).bind fun st => if st.length = 1 then (if size (st.getD 0 .empty) ≤ 500 then some (st.getD 0 .empty) else none) else none).isSome = false → Ev (fun k => spec_l1treeOK.l0 k L L.length) (((fold [] (L.map o4)).bind fun st => if st.length = 1 then (if size (st.getD 0 .empty) ≤ 500 then some (st.getD 0 .empty) else none) else none).isSome) := by
        intro e1 e2
        rw [e2]
        refine ⟨K1 + 1, fun n hn => ?_⟩
        obtain ⟨n, rfl⟩ : ∃ m, n = m + 1 := ⟨n - 1, by omega⟩
        have g1' := g1 n (by omega)
        simp only at g1'
        simp only [spec_l1treeOK.l0]
        rw [if_neg (by omega), g1', e1, Option.bind_some, if_neg (by simp)]
      cases hf : fold [] (L.map o4) with
      | none => rw [hf] at hno; exact hno rfl rfl
      | some st =>
        by_cases hst : st.length = 1
        · obtain ⟨x, rfl⟩ : ∃ x, st = [x] := List.length_eq_one_iff.1 hst
          rw [hf] at g1
          obtain ⟨K2, g2⟩ := size_ev (parses_of hf) L rfl hl3
          have e1 : ((some [x]).bind fun st : List Nd => if st.length = 1 then (if size (st.getD 0 .empty) ≤ 500 then some (st.getD 0 .empty) else none) else none).isSome = decide (size x ≤ 500) := by
            show (if size x ≤ 500 then some x else none).isSome = _
            by_cases c : size x ≤ 500
            · rw [if_pos c, decide_eq_true c]; rfl
            · rw [if_neg c, decide_eq_false c]; rfl
          rw [e1]
          refine ⟨K1 + K2 + 1, fun n hn => ?_⟩
          obtain ⟨n, rfl⟩ : ∃ m, n = m + 1 := ⟨n - 1, by omega⟩
          have g1' := g1 n (by omega)
          have g2' := g2 n (by omega)
          simp only at g1' g2'
          simp only [spec_l1treeOK.l0]
          rw [if_neg (by omega), g1', Option.bind_some, if_pos (by rfl), g2', Option.bind_some]
        · rw [hf] at hno
          refine hno (decide_eq_false (by simpa using hst)) ?_
          simp only [Option.bind_some, if_neg hst]
          rfl
    | succ d ih =>
      intro i hd h
      obtain ⟨K1, g1⟩ := op_ev (L.getD i z96).f0 (L.getD i z96).f1 (L.getD i z96).f2 (L.getD i z96).f3 (hs _ (by rw [List.getD, List.getElem?_eq_getElem (show i < L.length by omega)]; exact List.getElem_mem _))
      have hop : opOK ((L.getD i z96).f0, (L.getD i z96).f1, (L.getD i z96).f2, (L.getD i z96).f3) = opOK ((L.map o4).getD i dO) := by rw [getD_o4]; rfl
      rw [hop] at g1
      cases hb : opOK ((L.map o4).getD i dO) with
      | false =>
        rw [hb] at g1
        have hv : validP (L.map o4) = false := by
          unfold validP
          rw [tree_none (fold_cut (L.map o4) (i + 1) (by
            rw [fold_take _ i (by omega)]
            cases fold [] ((L.map o4).take i) with
            | none => rfl
            | some st => exact push_bad st _ hb))]
          rfl
        rw [hv]
        refine ⟨K1 + 1, fun n hn => ?_⟩
        obtain ⟨n, rfl⟩ : ∃ m, n = m + 1 := ⟨n - 1, by omega⟩
        have g1' := g1 n (by omega)
        simp only at g1'
        simp only [spec_l1treeOK.l0]
        rw [if_pos (by omega), if_pos (by omega), rdT, g1', Option.bind_some, if_neg (by simp)]
      | true =>
        rw [hb] at g1
        obtain ⟨K2, g2⟩ := ih (i + 1) (by omega) (fun j hj => by
          by_cases e : j = i
          · subst e; exact hb
          · exact h j (by omega))
        refine ⟨K1 + K2 + 1, fun n hn => ?_⟩
        obtain ⟨n, rfl⟩ : ∃ m, n = m + 1 := ⟨n - 1, by omega⟩
        have g1' := g1 n (by omega)
        have g2' := g2 n (by omega)
        simp only at g1' g2'
        simp only [spec_l1treeOK.l0]
        rw [if_pos (by omega), if_pos (by omega), rdT, g1', Option.bind_some, if_pos rfl, wrap_succ i (by omega), g2']
  refine Ev.congr (f := fun k => spec_l1treeOK.j0 k L false) (fun k => ?_) (Ev.step (f := fun k => spec_l1treeOK.l0 k L 0) (fun k => ?_) (Ev.congr (fun _ => rfl) (key L.length 0 (by omega) (fun j hj => by omega))))
  · simp only [spec_l1treeOK.f]
    rw [if_neg h1, decide_eq_false h3]
  · simp only [spec_l1treeOK.j0]
    rw [if_neg (by simp)]
end Go.Proofs.Ytnpmkcbbmeekaaa.PValid
