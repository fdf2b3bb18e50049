import Derived.Test.YtmgmdnmfalepkaaPKit
import Derived.Lib.SlicesCompact
namespace Go.Proofs.Ytmgmdnmfalepkaa.PSort
open Go.RowKit Go.Proofs.YtmgmdnmfalepkaaW.PrintWords Go.Proofs.Ytmgmdnmfalepkaa.PKit
theorem upTo_spec (zs : List Int) (hs : zs.Pairwise (· ≤ ·)) : ∀ m, m ≤ zs.length → Asc (Go.Lib.compactUpTo zs.toArray m) ∧ ∀ x, x ∈ Go.Lib.compactUpTo zs.toArray m ↔ x ∈ zs.take m := by
  intro m
  induction m with
  | zero =>
    intro _
    have e : Go.Lib.compactUpTo zs.toArray 0 = [] := rfl
    rw [e]
    simp
  | succ m ih =>
    intro hm
    obtain ⟨h1, h2⟩ := ih (by omega)
    have ht : zs.take (m + 1) = zs.take m ++ [zs[m]] := List.take_succ_eq_append_getElem (by omega)
    have hg : zs.toArray[m]! = zs[m] := by simp [getElem!_pos, show m < zs.length by omega]
    have hmon : ∀ i j (hi : i < zs.length) (hj : j < zs.length), i < j → zs[i] ≤ zs[j] := fun i j hi hj hij => List.pairwise_iff_getElem.1 hs i j hi hj hij
    rw [Go.Lib.compactUpTo_succ, ht]
    by_cases hk : Go.Lib.keeps zs.toArray m = true
    · rw [if_pos hk, hg]
      constructor
      · refine List.pairwise_append.2 ⟨h1, by simp, fun a ha b hb => ?_⟩
        obtain rfl : b = zs[m] := by simpa using hb
        have ha' := (h2 a).1 ha
        obtain ⟨i, hi, rfl⟩ := List.getElem_of_mem ha'
        rw [List.length_take] at hi
        rw [List.getElem_take]
        have hm0 : m ≠ 0 := by omega
        unfold Go.Lib.keeps at hk
        have hk := of_decide_eq_true hk
        rcases hk with hk | hk
        · exact absurd hk hm0
        · have hg1 : zs.toArray[m - 1]! = zs[m - 1] := by simp [getElem!_pos, show m - 1 < zs.length by omega]
          rw [hg, hg1] at hk
          have e1 : zs[i] ≤ zs[m - 1] := by
            by_cases hi1 : i = m - 1
            · subst hi1; exact Int.le_refl _
            · exact hmon i (m - 1) (by omega) (by omega) (by omega)
          have e2 := hmon (m - 1) m (by omega) (by omega) (by omega)
          omega
      · intro x
        rw [List.mem_append, List.mem_append, h2 x]
    · rw [if_neg hk, List.append_nil]
      refine ⟨h1, fun x => ?_⟩
      rw [h2 x, List.mem_append]
      constructor
      · exact .inl
      · rintro (h | h)
        · exact h
        · obtain rfl : x = zs[m] := by simpa using h
          unfold Go.Lib.keeps at hk
          have hk : ¬ (m = 0 ∨ zs.toArray[m]! ≠ zs.toArray[m - 1]!) := fun hh => hk (decide_eq_true hh)
          have hm0 : m ≠ 0 := fun e => hk (.inl e)
          have hg1 : zs.toArray[m - 1]! = zs[m - 1] := by simp [getElem!_pos, show m - 1 < zs.length by omega]
          have he : zs[m] = zs[m - 1] := by
            have := Decidable.not_not.1 (fun hh => hk (.inr hh))
            rwa [hg, hg1] at this
          rw [he]
          exact List.mem_take_iff_getElem.2 ⟨m - 1, by omega, rfl⟩
theorem compact_sorted (l zs : List Int) (hs : zs.Pairwise (· ≤ ·)) (hm : ∀ x, x ∈ zs ↔ x ∈ l) : Go.Lib.compact zs = ord l := by
  obtain ⟨h1, h2⟩ := upTo_spec zs hs zs.length (Nat.le_refl _)
  refine ord_unique h1 (fun x => ?_)
  have h3 := h2 x
  rw [List.take_length, hm x] at h3
  exact h3
theorem sorted_pairwise (l : List Int) : (l.mergeSort fun x y => decide (x ≤ y)).Pairwise (· ≤ ·) := by
  have := List.pairwise_mergeSort (le := fun x y : Int => decide (x ≤ y)) (fun a b c h1 h2 => by simp at h1 h2 ⊢; omega) (fun a b => by simp; omega) l
  exact this.imp (fun h => by simpa using h)
theorem sort_compact (l : List Int) : Go.Lib.compact (l.mergeSort fun x y => decide (x ≤ y)) = ord l :=
  compact_sorted l _ (sorted_pairwise l) (fun _ => List.mem_mergeSort)
end Go.Proofs.Ytmgmdnmfalepkaa.PSort
