import Derived.Test.YtmgmdnmfalepkaaKit
import Derived.Test.YtmgmdnmfalepkaaPSort
import Derived.Test.YtmgmdnmfalepkaaShelf
import Derived.Sort.OwnSortedInts
namespace Go.Proofs.Ytmgmdnmfalepkaa.SortI
open Go.RowKit Go.Sort Go.Proofs.YtmgmdnmfalepkaaW.PrintWords Go.Proofs.YtmgmdnmfalepkaaW.PrintMore Go.Proofs.Ytmgmdnmfalepkaa.Kit Go.Proofs.Ytmgmdnmfalepkaa.PKit Go.Proofs.Ytmgmdnmfalepkaa.PSort
set_option linter.unusedVariables false
abbrev srt (l : List Int) : List Int := l.mergeSort fun x y => decide (x ≤ y)
theorem srt_length (l : List Int) : (srt l).length = l.length := List.length_mergeSort l
theorem encs_int (xs : List Int) : encs (Value.int .i64) xs = xs.map (Value.int .i64) := rfl
theorem R_block {w : World} {base : Nat} {ok : Nat → Prop} {v : Value} {xs : List Int} (h : Kd.R (Kd.int .i64) 3 w base ok v xs) :
    (v = .slice none 0 0 ∧ xs = []) ∨ ∃ g cap cur, v = .slice (some ⟨g, 0, none⟩) xs.length cap ∧ base ≤ g ∧ ok g ∧ w.heap[g]? = some (.cells cur 3 (0, 0)) ∧ xs.length ≤ cap ∧ cap ≤ maxLen ∧ cur.size = cap * 1 ∧ cur.toList.take xs.length = xs.map (Value.int .i64) := by
  have ho := Kd.own_of_R h
  rcases ho.2 with ⟨rfl, hn⟩ | ⟨g, cap, cur, rfl, hg, hb, h1, h2, h3, h4⟩
  · exact .inl ⟨rfl, List.eq_nil_of_length_eq_zero hn⟩
  · exact .inr ⟨g, cap, cur, rfl, hg, h.1 g rfl, hb, h1, h2, h3, by simpa [encs_int] using h4⟩
theorem sort_calls (v : Value) (xs : List Int) (base : Nat) (ok : Nat → Prop) (w : World) (h : Kd.R (Kd.int .i64) 3 w base ok v xs) (hl : xs.length < 4611686018427387904) :
    Calls Try.prog 75 #[v] w fun e w' => e = .returned (.tuple #[]) ∧ Kd.R (Kd.int .i64) 3 w' base ok v (srt xs) ∧ w.grownBy w' v.ownBlock := by
  rcases R_block h with ⟨rfl, rfl⟩ | ⟨g, cap, cur, rfl, hg, hok, hb, h1, h2, h3, h4⟩
  · refine (Try.slices_Sort_int_none none 0 w).mono ?_
    rintro e w' ⟨rfl, rfl⟩
    exact ⟨rfl, by simpa [srt] using h, World.grownBy.refl _ _⟩
  · refine (Try.slices_Sort_int g 0 cap xs w (holds_of_blockI hb h4) (Array.getElem?_eq_some_iff.1 hb).1 hl).mono ?_
    rintro e w' ⟨rfl, n, os, rfl⟩
    refine ⟨rfl, ?_, grownBy_sortedI _⟩
    have ho := ownsRow_sortedI (n := n) (os := os) (ts := srt xs) (srt_length xs) hg hb h1 h2 h3
    refine Kd.R_of_own (by rw [srt_length]; exact ho) (fun k hk => ?_)
    have : g = k := by simpa [Value.ownBlock] using hk
    subst this
    exact hok
theorem grow_nil (W : World) : grow W #[] = W := by simp [grow]
theorem compact_len (xs : List Int) : (Go.Lib.compact xs).length ≤ xs.length := by
  unfold Go.Lib.compact Go.Lib.compactUpTo
  rw [List.length_map]
  refine Nat.le_trans (List.length_filter_le _ _) ?_
  simp
theorem compact_calls (v : Value) (xs : List Int) (base : Nat) (ok : Nat → Prop) (w : World) (h : Kd.R (Kd.int .i64) 3 w base ok v xs) :
    Calls Try.prog 76 #[v] w fun e w' => ∃ v', e = .returned v' ∧ Kd.R (Kd.int .i64) 3 w' base ok v' (Go.Lib.compact xs) ∧ w.grownBy w' v.ownBlock := by
  rcases R_block h with ⟨rfl, rfl⟩ | ⟨g, cap, cur, rfl, hg, hok, hb, h1, h2, h3, h4⟩
  · refine (Try.slices_Compact_int_empty none 0 w).mono ?_
    rintro e w' ⟨rfl, rfl⟩
    exact ⟨_, rfl, Kd.R_nil _ _ _ _ _, World.grownBy.refl _ _⟩
  · refine (Try.slices_Compact_int g 0 cap xs w (holds_of_blockI hb h4) (by unfold maxLen at h2; omega) h1).mono ?_
    rintro e w' ⟨rfl, q, rfl⟩
    refine ⟨_, rfl, ?_, by have := grownBy_sortedI (w := w) (g := g) (n := q) (os := #[]) (Go.Lib.compact xs ++ List.replicate (xs.length - (Go.Lib.compact xs).length) 0).toArray; rwa [grow_nil] at this⟩
    have hcl := compact_len xs
    have hlen : (Go.Lib.compact xs ++ List.replicate (xs.length - (Go.Lib.compact xs).length) 0).length = xs.length := by simp; omega
    have ho := ownsRow_sortedI (n := q) (os := #[]) (ts := Go.Lib.compact xs ++ List.replicate (xs.length - (Go.Lib.compact xs).length) 0) hlen hg hb h1 h2 h3
    have hR : Kd.R (Kd.int .i64) 3 _ base ok (.slice (some ⟨g, 0, none⟩) xs.length cap) (Go.Lib.compact xs ++ List.replicate (xs.length - (Go.Lib.compact xs).length) 0) := Kd.R_of_own (by rw [hlen]; exact ho) (fun k hk => by
      have : g = k := by simpa [Value.ownBlock] using hk
      subst this
      exact hok)
    have ht := Kd.R_take hR (m := (Go.Lib.compact xs).length) (by rw [hlen]; exact hcl)
    rw [List.take_left' rfl, grow_nil] at ht
    exact ht
end Go.Proofs.Ytmgmdnmfalepkaa.SortI
