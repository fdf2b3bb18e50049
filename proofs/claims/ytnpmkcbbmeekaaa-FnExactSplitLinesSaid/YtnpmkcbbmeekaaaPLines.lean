/- A text's lines, in plain words; the specification's SplitLines answers them. -/
import Derived.Test.YtnpmkcbbmeekaaaPKit
import Derived.Test.YtnpmkcbbmeekaaaSx2
import Derived.Shelf.Bytes.SlCut
namespace Go.Proofs.Ytnpmkcbbmeekaaa.PLines
open Go.RowKit Go.Proofs.YtnpmkcbbmeekaaaW.PrintWords Go.Proofs.Ytnpmkcbbmeekaaa.PKit Go.Proofs.Ytnpmkcbbmeekaaa.S
set_option linter.unusedVariables false

/-- Where the first newline stands; the length where none does. -/
def cutAt : List Int → Nat
  | [] => 0
  | x :: r => if x = 10 then 0 else cutAt r + 1
theorem cutAt_le (t : List Int) : cutAt t ≤ t.length := by
  induction t with
  | nil => exact Nat.le_refl _
  | cons x r ih =>
    unfold cutAt
    split
    · exact Nat.zero_le _
    · simp only [List.length_cons]; omega
def linesN : Nat → List Int → List (List Int)
  | 0, _ => []
  | n + 1, t => if t = [] then [] else t.take (cutAt t) :: linesN n (t.drop (cutAt t + 1))
def lines (t : List Int) : List (List Int) := linesN t.length t
theorem linesN_fuel : ∀ (n m : Nat) (t : List Int), t.length ≤ n → t.length ≤ m → linesN n t = linesN m t
  | 0, m, t, h, _ => by
    obtain rfl := List.length_eq_zero_iff.1 (Nat.le_zero.1 h)
    cases m with
    | zero => rfl
    | succ m => simp [linesN]
  | n + 1, 0, t, _, h => by
    obtain rfl := List.length_eq_zero_iff.1 (Nat.le_zero.1 h)
    simp [linesN]
  | n + 1, m + 1, t, h1, h2 => by
    unfold linesN
    by_cases ht : t = []
    · rw [if_pos ht, if_pos ht]
    · have : 0 < t.length := List.length_pos_iff.2 ht
      rw [if_neg ht, if_neg ht, linesN_fuel n m _ (by rw [List.length_drop]; omega) (by rw [List.length_drop]; omega)]
theorem lines_nil : lines [] = [] := rfl
theorem lines_step (t : List Int) (ht : t ≠ []) : lines t = t.take (cutAt t) :: lines (t.drop (cutAt t + 1)) := by
  have : 0 < t.length := List.length_pos_iff.2 ht
  unfold lines
  rw [linesN_fuel t.length (t.length - 1 + 1) t (by omega) (by omega)]
  conv => lhs; unfold linesN
  rw [if_neg ht, linesN_fuel (t.length - 1) (t.drop (cutAt t + 1)).length _ (by rw [List.length_drop]; omega) (Nat.le_refl _)]
theorem lines_len : ∀ (n : Nat) (t : List Int), t.length ≤ n → (lines t).length ≤ t.length
  | 0, t, h => by
    obtain rfl := List.length_eq_zero_iff.1 (Nat.le_zero.1 h)
    rw [lines_nil]
    exact Nat.le_refl _
  | n + 1, t, h => by
    by_cases ht : t = []
    · subst ht; rw [lines_nil]; exact Nat.le_refl _
    · have : 0 < t.length := List.length_pos_iff.2 ht
      rw [lines_step t ht, List.length_cons]
      have := lines_len n (t.drop (cutAt t + 1)) (by rw [List.length_drop]; omega)
      rw [List.length_drop] at this
      omega
section
variable (x0 : List Int) (hl : x0.length ≤ 1048576)
theorem l1_ev (hl : x0.length ≤ 1048576) (r : List (List Int)) (acc : List (List Int)) (ha : acc.length ≤ 1048577) : ∀ (d i : Nat) (p : List Int), i + d = x0.length → p.length ≤ i →
    Ev (fun k => spec_SplitLines.l0 k x0 (acc ++ [p ++ (x0.drop i).take (cutAt (x0.drop i))]) ((i + cutAt (x0.drop i) + 1 : Nat) : Int)) r → Ev (fun k => spec_SplitLines.l1 k x0 acc (i : Int) p) r := by
  intro d
  induction d with
  | zero =>
    intro i p hd hp h
    have e : x0.drop i = [] := List.drop_of_length_le (by omega)
    rw [e] at h
    simp only [cutAt, List.take_nil, List.append_nil, Nat.add_zero] at h
    refine Ev.step (fun k => ?_) h
    simp only [spec_SplitLines.l1]
    rw [if_neg (by omega), if_pos (by omega), wrap_succ i (by omega)]
  | succ d ih =>
    intro i p hd hp h
    have hi : i < x0.length := by omega
    have e : x0.drop i = rd x0 (i : Int) :: x0.drop (i + 1) := by rw [List.drop_eq_getElem_cons hi, rd_get x0 i hi]
    rw [e] at h
    by_cases h10 : rd x0 (i : Int) = 10
    · have ec : cutAt (rd x0 (i : Int) :: x0.drop (i + 1)) = 0 := by unfold cutAt; rw [if_pos h10]
      rw [ec, List.take_zero, List.append_nil] at h
      refine Ev.step (fun k => ?_) h
      simp only [spec_SplitLines.l1]
      rw [if_pos (by omega), if_pos (by omega), if_pos h10, if_pos (by omega), wrap_succ i (by omega)]
    · have ec : cutAt (rd x0 (i : Int) :: x0.drop (i + 1)) = cutAt (x0.drop (i + 1)) + 1 := by
        conv => lhs; unfold cutAt
        rw [if_neg h10]
      rw [ec, List.take_succ_cons] at h
      have h2 := ih (i + 1) (p ++ [rd x0 (i : Int)]) (by omega) (by simp; omega) (by
        have e1 : i + 1 + cutAt (x0.drop (i + 1)) + 1 = i + (cutAt (x0.drop (i + 1)) + 1) + 1 := by omega
        rw [e1, List.append_assoc]
        exact h)
      refine Ev.step (fun k => ?_) h2
      simp only [spec_SplitLines.l1]
      rw [if_pos (by omega), if_pos (by omega), if_neg h10, if_pos (by omega), wrap_succ i (by omega)]
theorem l0_ev (hl : x0.length ≤ 1048576) : ∀ (n i : Nat) (acc : List (List Int)), x0.length - i ≤ n → i ≤ x0.length + 1 → acc.length ≤ i → Ev (fun k => spec_SplitLines.l0 k x0 acc (i : Int)) (acc ++ lines (x0.drop i)) := by
  intro n
  induction n with
  | zero =>
    intro i acc hn hi ha
    rw [List.drop_of_length_le (by omega), lines_nil, List.append_nil]
    refine Ev.step (f := fun _ => some acc) (fun k => ?_) (Ev.now _)
    simp only [spec_SplitLines.l0]
    rw [if_neg (by omega)]
  | succ n ih =>
    intro i acc hn hi ha
    by_cases hlt : i < x0.length
    · have hne : x0.drop i ≠ [] := by
        intro e
        have := congrArg List.length e
        rw [List.length_drop] at this
        simp at this
        omega
      have hc := cutAt_le (x0.drop i)
      rw [List.length_drop] at hc
      refine Ev.step (f := fun k => spec_SplitLines.l1 k x0 acc (i : Int) []) (fun k => ?_) ?_
      · simp only [spec_SplitLines.l0]
        rw [if_pos (by omega)]
      · refine l1_ev x0 hl _ acc (by omega) (x0.length - i) i [] (by omega) (by simp) ?_
        have h := ih (i + cutAt (x0.drop i) + 1) (acc ++ [[] ++ (x0.drop i).take (cutAt (x0.drop i))]) (by omega) (by omega) (by simp; omega)
        rw [lines_step _ hne]
        rw [List.append_assoc] at h
        rw [List.drop_drop]
        have e1 : i + (cutAt (x0.drop i) + 1) = i + cutAt (x0.drop i) + 1 := by omega
        rw [e1]
        exact h
    · rw [List.drop_of_length_le (by omega), lines_nil, List.append_nil]
      refine Ev.step (f := fun _ => some acc) (fun k => ?_) (Ev.now _)
      simp only [spec_SplitLines.l0]
      rw [if_neg (by omega)]
theorem spec_ev (hl : x0.length ≤ 1048576) : Ev (fun k => spec_SplitLines.f k x0) (lines x0) := by
  have := l0_ev x0 hl x0.length 0 [] (by omega) (by omega) (by simp)
  exact Ev.congr (fun k => by simp only [spec_SplitLines.f]; rfl) this
end
/-- Where bytes.IndexByte finds a newline. -/
theorem index_cut (t : List Int) (hb : ∀ x ∈ t, 0 ≤ x ∧ x ≤ 255) : Go.Lib.indexByte (Go.Lib.bytesOf t) ((10 : Int).toNat.toUInt8) = if cutAt t < t.length then (cutAt t : Int) else -1 := by
  induction t with
  | nil => rfl
  | cons x r ih =>
    have ih := ih (fun y hy => hb y (List.mem_cons_of_mem _ hy))
    obtain ⟨b0, b1⟩ := hb x (List.mem_cons_self ..)
    have e : Go.Lib.bytesOf (x :: r) = UInt8.ofNat x.toNat :: Go.Lib.bytesOf r := rfl
    rw [e]
    unfold Go.Lib.indexByte
    by_cases h10 : x = 10
    · subst h10
      have ec : cutAt (10 :: r) = 0 := by unfold cutAt; rw [if_pos rfl]
      rw [ec, if_pos (by rfl), if_pos (by simp)]
      rfl
    · have hne : (UInt8.ofNat x.toNat == (10 : Int).toNat.toUInt8) = false := by
        rw [beq_eq_false_iff_ne]
        intro h
        have h2 := congrArg UInt8.toNat h
        rw [UInt8.toNat_ofNat'] at h2
        have h3 : ((10 : Int).toNat.toUInt8).toNat = 10 := rfl
        rw [h3] at h2
        omega
      have ec : cutAt (x :: r) = cutAt r + 1 := by
        conv => lhs; unfold cutAt
        rw [if_neg h10]
      rw [hne, if_neg (by simp), ih, ec]
      simp only [List.length_cons]
      by_cases hc : cutAt r < r.length
      · have : ((cutAt r : Int) == -1) = false := by rw [beq_eq_false_iff_ne]; omega
        rw [if_pos hc, this, if_neg (by simp), if_pos (by omega)]
        omega
      · rw [if_neg hc, if_pos (by rfl), if_neg (by omega)]
end Go.Proofs.Ytnpmkcbbmeekaaa.PLines
