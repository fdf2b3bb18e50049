import Derived.Test.YtmgmdnmfalepkaaPOrdL
import Derived.Test.YtmgmdnmfalepkaaLtri
namespace Go.Proofs.Ytmgmdnmfalepkaa.PTri
open Go.RowKit Go.Proofs.YtmgmdnmfalepkaaW.PrintWords Go.Proofs.Ytmgmdnmfalepkaa.PKit Go.Proofs.Ytmgmdnmfalepkaa.POrd Go.Proofs.Ytmgmdnmfalepkaa.L
set_option linter.unusedVariables false
def upto {α : Type} (f : Nat → α) (k : Nat) : List α := (List.range k).map f
theorem upto_succ {α : Type} (f : Nat → α) (k : Nat) : upto f (k + 1) = upto f k ++ [f k] := by simp [upto, List.range_succ]
theorem upto_length {α : Type} (f : Nat → α) (k : Nat) : (upto f k).length = k := by simp [upto]
def tri (l : List Int) (i : Nat) : Int := l.getD i 0 * 65536 + l.getD (i + 1) 0 * 256 + l.getD (i + 2) 0
def tris (l : List Int) : List Int := upto (tri l) (l.length - 2)
theorem tris_length (l : List Int) : (tris l).length = l.length - 2 := upto_length _ _
theorem getD_bd (l : List Int) (hb : ∀ x ∈ l, 0 ≤ x ∧ x ≤ 255) (i : Nat) : 0 ≤ l.getD i 0 ∧ l.getD i 0 ≤ 255 := by
  by_cases h : i < l.length
  · have : l.getD i 0 = l[i] := by simp [List.getD, List.getElem?_eq_getElem h]
    rw [this]
    exact hb _ (List.getElem_mem h)
  · have : l.getD i 0 = 0 := by simp [List.getD, List.getElem?_eq_none (Nat.le_of_not_lt h)]
    omega
theorem tri_bd (l : List Int) (hb : ∀ x ∈ l, 0 ≤ x ∧ x ≤ 255) (i : Nat) : 0 ≤ tri l i ∧ tri l i ≤ 16777215 := by
  have h0 := getD_bd l hb i
  have h1 := getD_bd l hb (i + 1)
  have h2 := getD_bd l hb (i + 2)
  unfold tri
  omega
theorem tris_bd (l : List Int) (hb : ∀ x ∈ l, 0 ≤ x ∧ x ≤ 255) : ∀ x ∈ tris l, 0 ≤ x ∧ x ≤ 16777215 := by
  intro x hx
  unfold tris upto at hx
  obtain ⟨i, _, rfl⟩ := List.mem_map.1 hx
  exact tri_bd l hb i
theorem spec_ev (l : List Int) (hb : ∀ x ∈ l, 0 ≤ x ∧ x ≤ 255) (hl : l.length ≤ 1048576) : Ev (fun k => spec_Trigrams.f k l) (ord (tris l)) := by
  have key : ∀ (d i : Nat), i + d = l.length - 2 → Ev (fun k => spec_Trigrams.l0 k l (upto (tri l) i) (i : Int)) (ord (tris l)) := by
    intro d
    induction d with
    | zero =>
      intro i hd
      have e : i = l.length - 2 := by omega
      subst e
      refine Ev.step (f := fun k => (spec_l3order.f k (upto (tri l) (l.length - 2))).bind fun t => some t) (fun k => ?_) (Ev.bind (order_ev _ _ (Nat.le_refl _) (by rw [upto_length]; omega)) (Ev.now _))
      simp only [spec_Trigrams.l0]
      rw [wrap_in (x := (((l.length - 2 : Nat) : Int)) + 2) (by omega)]
      by_cases h2 : l.length ≤ 1
      · rw [if_neg (by omega)]
      · rw [if_neg (by omega)]
    | succ d ih =>
      intro i hd
      have h0 := getD_bd l hb i
      have h1 := getD_bd l hb (i + 1)
      have h2 := getD_bd l hb (i + 2)
      refine Ev.step (fun k => ?_) (ih (i + 1) (by omega))
      simp only [spec_Trigrams.l0]
      have e0 : rd l (i : Int) = l.getD i 0 := rfl
      have e1 : rd l ((i + 1 : Nat) : Int) = l.getD (i + 1) 0 := rfl
      have e2 : rd l ((i + 2 : Nat) : Int) = l.getD (i + 2) 0 := rfl
      rw [wrap_in (x := (i : Int) + 2) (by omega), wrap_in (x := (i : Int) + 1) (by omega)]
      rw [if_pos (by omega), if_pos (by omega), if_pos (by omega), if_pos (by omega), if_pos (by omega), if_pos (by omega)]
      rw [show (i : Int) + 1 = ((i + 1 : Nat) : Int) by omega, show (i : Int) + 2 = ((i + 2 : Nat) : Int) by omega, e0, e1, e2]
      simp only [spec_l3num.f]
      rw [wrap_in (x := l.getD i 0) (by omega), wrap_in (x := l.getD (i + 1) 0) (by omega), wrap_in (x := l.getD (i + 2) 0) (by omega)]
      rw [wrap_in (x := l.getD i 0 * 65536) (by omega), wrap_in (x := l.getD (i + 1) 0 * 256) (by omega), wrap_in (x := l.getD i 0 * 65536 + l.getD (i + 1) 0 * 256) (by omega), wrap_in (x := l.getD i 0 * 65536 + l.getD (i + 1) 0 * 256 + l.getD (i + 2) 0) (by omega)]
      rw [Option.bind_some, if_pos (by rw [upto_length]; omega), upto_succ]
      rfl
  have h := key (l.length - 2) 0 (by omega)
  exact Ev.congr (fun k => by simp only [spec_Trigrams.f]; rfl) h
end Go.Proofs.Ytmgmdnmfalepkaa.PTri
