/- Parts of the proof (see the row's own text): Lseg, PSeg, Shelf, BuildA, Far, Lenc, PEnc, PSum. -/
import Derived.Test.YtmgmdnmfalepkaaG4
import Derived.Test.YtmgmdnmfalepkaaG9
import Derived.Test.YtmgmdnmfalepkaaG10
import Derived.Test.YtmgmdnmfalepkaaG5
import Derived.Shelf.Small.Bits
import Derived.Shelf.Small.Wraps
import Derived.Shelf.Strconv.Itoa0
import Derived.Shelf.Sort.Plain
import Derived.Shelf.Slices.Equal
import Derived.Ground.Names2Prog
import Derived.Shelf.Slices.Clone
import Derived.Shelf.Slices.CompactI
import Derived.Shelf.Slices.SearchI
import Derived.Shelf.Slices.Cells
import Derived.Shelf.Slices.In.SortNone
import Derived.Shelf.Bytes.SlIndexAt
import Derived.Shelf.Slices.Empties2
import Derived.Shelf.Bytes.SlSearch0
import Derived.Ground.SlgnProg
import Derived.Shelf.SlicesE.Clone
import Derived.Shelf.Bytes.SlEqualAll
import Derived.Shelf.Bytes.Small
import Derived.Shelf.Bytes.IndexByte
import Derived.Test.YtmgmdnmfalepkaaProg
import Derived.Test.YtmgmdnmfalepkaaG2
import Derived.Deep.RegionLaw
import Derived.Deep.RegionHeld3
import Derived.Deep.AppendLies
import Derived.Lib.BytesEntry
import Derived.Lib.AppendZerosOnto
import Derived.Lib.SliceRun
import Derived.Laws.BitsLemmas
namespace Go.Proofs.Ytmgmdnmfalepkaa.L
open Go.RowKit Go.Proofs.YtmgmdnmfalepkaaW.PrintWords Go.Proofs.YtmgmdnmfalepkaaW.PrintLast Go.Proofs.YtmgmdnmfalepkaaW.PrintMore
attribute [local go_sem] max2_int min2_int max_two min_two max_three min_three max_four min_four
set_option linter.unusedVariables false
set_option linter.unusedSimpArgs false
def spec_BuildSegment.f (k : Nat) (a0 : Int) (l1 : List (List Int)) : Option (Int × (List (List Int)) × List Int × (List (List Int)) × Int) := (spec_l4fits.f k a0 l1).bind fun t313 => (if t313 = true then ((spec_l4build.f k a0 l1).bind fun bt314 => (some (bt314.1, bt314.2.1, bt314.2.2.1, bt314.2.2.2, 0))) else (some (0, ([] : List (List Int)), ([] : List Int), ([] : List (List Int)), 4)))
end Go.Proofs.Ytmgmdnmfalepkaa.L

namespace Go.Proofs.Ytmgmdnmfalepkaa.PSeg
open Go.RowKit Go.Proofs.YtmgmdnmfalepkaaW.PrintWords Go.Proofs.Ytmgmdnmfalepkaa.PKit Go.Proofs.Ytmgmdnmfalepkaa.POrd Go.Proofs.Ytmgmdnmfalepkaa.PTri Go.Proofs.Ytmgmdnmfalepkaa.L Go.Proofs.Ytmgmdnmfalepkaa.HelpBB
set_option linter.unusedVariables false
abbrev SegT := Int × List (List Int) × List Int × List (List Int)
def plain (ls : List (List Int)) : Bool := ls.all fun l => decide (10 ∉ l)
def fits (b : Int) (ls : List (List Int)) : Bool := decide (0 ≤ b) && decide (b ≤ 1000) && decide (1 ≤ ls.length) && decide (b + (ls.length : Int) ≤ 1000) && plain ls && decide (totalB ls ≤ 20000)
def keys (ls : List (List Int)) : List Int := ord (ls.flatMap tris)
def hasT (ls : List (List Int)) (k : Int) (i : Nat) : Bool := decide (k ∈ tris (ls.getD i []))
def post (b : Int) (ls : List (List Int)) (n : Nat) (k : Int) : List Int := ((List.range n).filter (hasT ls k)).map fun (i : Nat) => b + (i : Int)
theorem post_succ (b : Int) (ls : List (List Int)) (n : Nat) (k : Int) : post b ls (n + 1) k = post b ls n k ++ (if hasT ls k n = true then [b + (n : Int)] else []) := by
  unfold post
  rw [List.range_succ, List.filter_append, List.map_append]
  congr 1
  by_cases h : hasT ls k n = true
  · simp [h]
  · simp [h]
theorem post_len (b : Int) (ls : List (List Int)) (n : Nat) (k : Int) : (post b ls n k).length ≤ n := by
  unfold post
  rw [List.length_map]
  refine Nat.le_trans (List.length_filter_le _ _) ?_
  simp
def seg (b : Int) (ls : List (List Int)) : SegT := (b, ls, keys ls, (keys ls).map (post b ls ls.length))
def build (b : Int) (ls : List (List Int)) : SegT × Int := if fits b ls = true then (seg b ls, 0) else ((0, [], [], []), 4)
theorem getD_get (l : List Int) (j : Nat) (h : j < l.length) : l.getD j 0 = l[j] := by simp [List.getD, List.getElem?_eq_getElem h]
abbrev Bytes (ls : List (List Int)) : Prop := ∀ l ∈ ls, ∀ x ∈ l, 0 ≤ x ∧ x ≤ 255
theorem getD_bytes {ls : List (List Int)} (h : Bytes ls) (i : Nat) : ∀ x ∈ ls.getD i [], 0 ≤ x ∧ x ≤ 255 := by
  by_cases hi : i < ls.length
  · have e : ls.getD i [] = ls[i] := by simp [List.getD, List.getElem?_eq_getElem hi]
    rw [e]
    exact h _ (List.getElem_mem hi)
  · have e : ls.getD i [] = [] := by simp [List.getD, List.getElem?_eq_none (Nat.le_of_not_lt hi)]
    rw [e]
    intro x hx
    cases hx
theorem getD_len (ls : List (List Int)) (i : Nat) : (ls.getD i []).length ≤ totalB ls := by
  by_cases hi : i < ls.length
  · have e : ls.getD i [] = ls[i] := by simp [List.getD, List.getElem?_eq_getElem hi]
    rw [e]
    exact total_mem (List.getElem_mem hi)
  · have e : ls.getD i [] = [] := by simp [List.getD, List.getElem?_eq_none (Nat.le_of_not_lt hi)]
    rw [e]
    exact Nat.zero_le _
theorem rdB (ls : List (List Int)) (i : Nat) : rd_L1 ls (i : Int) = ls.getD i [] := rfl
theorem total_drop (ls : List (List Int)) (i : Nat) (h : i < ls.length) : totalB (ls.take (i + 1)) = totalB (ls.take i) + (ls.getD i []).length := by
  rw [take_snoc ls i h, total_snoc]
theorem bytes_ev (ls : List (List Int)) (hs : smallBB ls) : Ev (fun k => spec_l4bytes.f k ls) (totalB ls : Int) := by
  have hs' : ls.length + totalB ls ≤ 1048576 := hs
  have key : ∀ (d i : Nat), i + d = ls.length → Ev (fun k => spec_l4bytes.l0 k ls (totalB (ls.take i) : Int) (i : Int)) (totalB ls : Int) := by
    intro d
    induction d with
    | zero =>
      intro i hd
      have e : ls.take i = ls := List.take_of_length_le (by omega)
      refine Ev.step (f := fun _ => some (totalB ls : Int)) (fun k => ?_) (Ev.now _)
      simp only [spec_l4bytes.l0]
      rw [if_neg (by omega), e]
    | succ d ih =>
      intro i hd
      have ht := total_take ls (i + 1)
      rw [total_drop ls i (by omega)] at ht
      refine Ev.step (fun k => ?_) (ih (i + 1) (by omega))
      simp only [spec_l4bytes.l0]
      rw [if_pos (by omega), if_pos (by omega), rdB, wrap_in (x := (totalB (ls.take i) : Int) + ((ls.getD i []).length : Int)) (by omega), wrap_succ i (by omega), total_drop ls i (by omega)]
      congr 1
  have h := key ls.length 0 (by omega)
  exact Ev.congr (fun k => by simp only [spec_l4bytes.f]; rfl) h
theorem plain_ev (ls : List (List Int)) (hs : smallBB ls) : Ev (fun k => spec_l4plain.f k ls) (plain ls) := by
  have hs' : ls.length + totalB ls ≤ 1048576 := hs
  have key : ∀ (d i : Nat), i + d = ls.length → Ev (fun k => spec_l4plain.l0 k ls (i : Int)) (plain (ls.drop i)) := by
    intro d
    induction d with
    | zero =>
      intro i hd
      have e : ls.drop i = [] := List.drop_of_length_le (by omega)
      refine Ev.step (f := fun _ => some true) (fun k => ?_) (by rw [e]; exact Ev.now _)
      simp only [spec_l4plain.l0]
      rw [if_neg (by omega)]
    | succ d ih =>
      intro i hd
      have hi : i < ls.length := by omega
      have hd1 : ls.drop i = ls.getD i [] :: ls.drop (i + 1) := by
        rw [List.drop_eq_getElem_cons hi]
        simp [List.getD, List.getElem?_eq_getElem hi]
      have hlen := getD_len ls i
      have inner : ∀ (d2 j : Nat), j + d2 = (ls.getD i []).length → (∀ x ∈ (ls.getD i []).take j, x ≠ 10) → Ev (fun k => spec_l4plain.l1 k ls (i : Int) (j : Int)) (plain (ls.drop i)) := by
        intro d2
        induction d2 with
        | zero =>
          intro j hj hn
          have hp : plain (ls.drop i) = plain (ls.drop (i + 1)) := by
            rw [hd1]
            have : decide (10 ∉ ls.getD i []) = true := decide_eq_true (fun hm => hn 10 (by rw [List.take_of_length_le (by omega)]; exact hm) rfl)
            simp only [plain, List.all_cons, this, Bool.true_and]
          rw [hp]
          refine Ev.step (fun k => ?_) (ih (i + 1) (by omega))
          simp only [spec_l4plain.l1]
          rw [if_pos (by omega), if_pos (by omega), rdB, if_neg (by omega), wrap_succ i (by omega)]
        | succ d2 ih2 =>
          intro j hj hn
          by_cases hx : (ls.getD i []).getD j 0 = 10
          · have hp : plain (ls.drop i) = false := by
              rw [hd1]
              have hm : 10 ∈ ls.getD i [] := by
                have e : (ls.getD i []).getD j 0 = (ls.getD i [])[j]'(by omega) := getD_get _ j (by omega)
                rw [← hx, e]
                exact List.getElem_mem _
              have : decide (10 ∉ ls.getD i []) = false := decide_eq_false (fun h => h hm)
              simp only [plain, List.all_cons, this, Bool.false_and]
            rw [hp]
            refine Ev.step (f := fun _ => some false) (fun k => ?_) (Ev.now _)
            simp only [spec_l4plain.l1]
            rw [if_pos (by omega), if_pos (by omega), rdB, if_pos (by omega), if_pos (by omega), rd_at, if_pos hx]
          · refine Ev.step (fun k => ?_) (ih2 (j + 1) (by omega) (fun x hxm => ?_))
            · simp only [spec_l4plain.l1]
              rw [if_pos (by omega), if_pos (by omega), rdB, if_pos (by omega), if_pos (by omega), rd_at, if_neg hx, wrap_succ j (by omega)]
            · rw [List.take_succ_eq_append_getElem (by omega)] at hxm
              rcases List.mem_append.1 hxm with h | h
              · exact hn x h
              · have e : (ls.getD i []).getD j 0 = (ls.getD i [])[j]'(by omega) := getD_get _ j (by omega)
                rw [List.mem_singleton.1 h, ← e]
                exact hx
      refine Ev.step (fun k => ?_) (inner (ls.getD i []).length 0 (by omega) (by simp))
      simp only [spec_l4plain.l0]
      rw [if_pos (by omega)]
      rfl
  have h := key ls.length 0 (by omega)
  rw [List.drop_zero] at h
  exact Ev.congr (fun k => by simp only [spec_l4plain.f]; rfl) h
theorem fits_ev (b : Int) (ls : List (List Int)) (hs : smallBB ls) : Ev (fun k => spec_l4fits.f k b ls) (fits b ls) := by
  have hs' : ls.length + totalB ls ≤ 1048576 := hs
  have hj : ∀ q, q = true → Ev (fun k => spec_l4fits.j0 k b ls q) false := fun q hq => by
    refine Ev.step (f := fun _ => some false) (fun k => ?_) (Ev.now _)
    simp only [spec_l4fits.j0]
    rw [if_pos hq]
  by_cases h1 : b < 0
  · have e : fits b ls = false := by unfold fits; rw [decide_eq_false (show ¬ 0 ≤ b by omega)]; rfl
    rw [e]
    exact Ev.congr (fun k => by simp only [spec_l4fits.f]; rw [if_pos h1]) (hj true rfl)
  by_cases h2 : b > 1000
  · have e : fits b ls = false := by unfold fits; rw [decide_eq_false (show ¬ b ≤ 1000 by omega)]; simp
    rw [e]
    exact Ev.congr (fun k => by simp only [spec_l4fits.f]; rw [if_neg h1, if_pos h2]) (hj true rfl)
  by_cases h3 : ls.length < 1
  · have e : fits b ls = false := by unfold fits; rw [decide_eq_false (show ¬ 1 ≤ ls.length by omega)]; simp
    rw [e]
    exact Ev.congr (fun k => by simp only [spec_l4fits.f]; rw [if_neg h1, if_neg h2]) (hj _ (decide_eq_true (by omega)))
  have h3' : decide ((ls.length : Int) < 1) = false := decide_eq_false (by omega)
  refine Ev.congr (fun k => by simp only [spec_l4fits.f]; rw [if_neg h1, if_neg h2, h3']) ?_
  by_cases h4 : b + (ls.length : Int) > 1000
  · have e : fits b ls = false := by unfold fits; rw [decide_eq_false (show ¬ b + (ls.length : Int) ≤ 1000 by omega)]; simp
    rw [e]
    refine Ev.step (f := fun _ => some false) (fun k => ?_) (Ev.now _)
    simp only [spec_l4fits.j0]
    rw [if_neg (by simp), wrap_in (by omega), if_pos h4]
  have e : fits b ls = (plain ls && decide (totalB ls ≤ 20000)) := by
    unfold fits
    rw [decide_eq_true (show 0 ≤ b by omega), decide_eq_true (show b ≤ 1000 by omega), decide_eq_true (show 1 ≤ ls.length by omega), decide_eq_true (show b + (ls.length : Int) ≤ 1000 by omega)]
    simp
  rw [e]
  refine Ev.step (f := fun k => (spec_l4plain.f k ls).bind fun t232 => (if t232 = true then ((spec_l4bytes.f k ls).bind fun t233 => (some (decide (t233 ≤ 20000)))) else (some false))) (fun k => ?_) (Ev.bind (plain_ev ls hs) ?_)
  · simp only [spec_l4fits.j0]
    rw [if_neg (by simp), wrap_in (by omega), if_neg h4]
  · cases hp : plain ls with
    | false =>
      show Ev _ false
      exact Ev.congr (fun k => by rw [if_neg (by simp)]) (Ev.now _)
    | true =>
      refine Ev.congr (fun k => by rw [if_pos rfl]) (Ev.bind (bytes_ev ls hs) ?_)
      have e2 : (true && decide (totalB ls ≤ 20000)) = decide ((totalB ls : Int) ≤ 20000) := by
        rw [Bool.true_and]
        by_cases h : totalB ls ≤ 20000
        · rw [decide_eq_true h, decide_eq_true (by omega)]
        · rw [decide_eq_false h, decide_eq_false (by omega)]
      rw [e2]
      exact Ev.now _
theorem copy_ev (ls : List (List Int)) (hs : smallBB ls) : Ev (fun k => spec_l4copy.f k ls) ls := by
  have hs' : ls.length + totalB ls ≤ 1048576 := hs
  have key : ∀ (d i : Nat), i + d = ls.length → Ev (fun k => spec_l4copy.l0 k ls (ls.take i) (i : Int)) ls := by
    intro d
    induction d with
    | zero =>
      intro i hd
      have e : ls.take i = ls := List.take_of_length_le (by omega)
      rw [e]
      refine Ev.step (f := fun _ => some ls) (fun k => ?_) (Ev.now _)
      simp only [spec_l4copy.l0]
      rw [if_neg (by omega)]
    | succ d ih =>
      intro i hd
      have hlen := getD_len ls i
      refine Ev.step (fun k => ?_) (ih (i + 1) (by omega))
      simp only [spec_l4copy.l0]
      rw [if_pos (by omega), if_pos (by omega), rdB, if_pos (by rw [List.length_nil]; omega), if_pos (by rw [List.length_take]; omega), List.nil_append, wrap_succ i (by omega), take_snoc ls i (by omega)]
  have h := key ls.length 0 (by omega)
  exact Ev.congr (fun k => by simp only [spec_l4copy.f]; rfl) h
theorem inList_ev (l : List Int) (v : Int) (hl : l.length ≤ 1099511627776) : Ev (fun k => spec_l2inList.f k l v) (decide (v ∈ l)) := by
  have key : ∀ (d i : Nat), i + d = l.length → (∀ x ∈ l.take i, x ≠ v) → Ev (fun k => spec_l2inList.l0 k l v (i : Int)) (decide (v ∈ l)) := by
    intro d
    induction d with
    | zero =>
      intro i hd hn
      rw [List.take_of_length_le (by omega)] at hn
      rw [decide_eq_false (fun h => hn v h rfl)]
      refine Ev.step (f := fun _ => some false) (fun k => ?_) (Ev.now _)
      simp only [spec_l2inList.l0]
      rw [if_neg (by omega)]
    | succ d ih =>
      intro i hd hn
      have e : l.getD i 0 = l[i]'(by omega) := by simp [List.getD, List.getElem?_eq_getElem (show i < l.length by omega)]
      by_cases hx : l.getD i 0 = v
      · rw [decide_eq_true (by rw [← hx, e]; exact List.getElem_mem _)]
        refine Ev.step (f := fun _ => some true) (fun k => ?_) (Ev.now _)
        simp only [spec_l2inList.l0]
        rw [if_pos (by omega), if_pos (by omega), rd_at, if_pos hx]
      · refine Ev.step (fun k => ?_) (ih (i + 1) (by omega) (fun x hxm => ?_))
        · simp only [spec_l2inList.l0]
          rw [if_pos (by omega), if_pos (by omega), rd_at, if_neg hx, wrap_succ i (by omega)]
        · rw [List.take_succ_eq_append_getElem (by omega)] at hxm
          rcases List.mem_append.1 hxm with h | h
          · exact hn x h
          · rw [List.mem_singleton.1 h, ← e]
            exact hx
  have h := key l.length 0 (by omega) (by simp)
  exact Ev.congr (fun k => by simp only [spec_l2inList.f]; rfl) h
structure UInv (x y out : List Int) (i j : Nat) : Prop where
  asc : Asc out
  mem : ∀ v, v ∈ out ↔ v ∈ x.take i ∨ v ∈ y.take j
  hx : ∀ v ∈ out, ∀ k (h : k < x.length), i ≤ k → v < x[k]
  hy : ∀ v ∈ out, ∀ k (h : k < y.length), j ≤ k → v < y[k]
theorem snoc_asc {out : List Int} {v : Int} (h : Asc out) (hv : ∀ u ∈ out, u < v) : Asc (out ++ [v]) :=
  List.pairwise_append.2 ⟨h, by simp, fun a ha b hb => by rw [List.mem_singleton.1 hb]; exact hv a ha⟩
theorem UInv.next {x y out : List Int} {i j i' j' : Nat} {v : Int} (h : UInv x y out i j) (hi' : i ≤ i' ∧ i' ≤ i + 1) (hj' : j ≤ j' ∧ j' ≤ j + 1)
    (hm : ∀ u, (u ∈ x.take i' ∨ u ∈ y.take j') ↔ (u ∈ x.take i ∨ u ∈ y.take j) ∨ u = v) (hlt : ∀ u ∈ out, u < v) (hx : ∀ k (h : k < x.length), i' ≤ k → v < x[k]) (hy : ∀ k (h : k < y.length), j' ≤ k → v < y[k]) : UInv x y (out ++ [v]) i' j' where
  asc := snoc_asc h.asc hlt
  mem := fun u => by rw [List.mem_append, List.mem_singleton, h.mem u, hm u]
  hx := fun u hu k hk hik => by
    rcases List.mem_append.1 hu with hu | hu
    · exact h.hx u hu k hk (by omega)
    · rw [List.mem_singleton.1 hu]
      exact hx k hk hik
  hy := fun u hu k hk hjk => by
    rcases List.mem_append.1 hu with hu | hu
    · exact h.hy u hu k hk (by omega)
    · rw [List.mem_singleton.1 hu]
      exact hy k hk hjk
theorem mem_take1 (x : List Int) (i : Nat) (h : i < x.length) (v : Int) : v ∈ x.take (i + 1) ↔ v ∈ x.take i ∨ v = x[i] := by
  rw [List.take_succ_eq_append_getElem h, List.mem_append, List.mem_singleton]
theorem or_two (a b c : Prop) : ((a ∨ c) ∨ (b ∨ c)) ↔ ((a ∨ b) ∨ c) := by
  constructor
  · rintro ((h | h) | (h | h))
    · exact .inl (.inl h)
    · exact .inr h
    · exact .inl (.inr h)
    · exact .inr h
  · rintro ((h | h) | h)
    · exact .inl (.inl h)
    · exact .inr (.inl h)
    · exact .inl (.inr h)
theorem union_ev (x y : List Int) (hx : Asc x) (hy : Asc y) (hl : x.length + y.length < 17592186044416) : Ev (fun k => spec_l4union.f k x y) (ord (x ++ y)) := by
  have key : ∀ (d i j : Nat) (out : List Int), (x.length - i) + (y.length - j) = d → i ≤ x.length → j ≤ y.length → out.length ≤ i + j → UInv x y out i j →
      Ev (fun k => spec_l4union.l0 k x y out (i : Int) (j : Int)) (ord (x ++ y)) := by
    intro d
    induction d using Nat.strongRecOn with
    | _ d ih =>
      intro i j out hd hi hj ho inv
      by_cases h1 : i < x.length
      · have ex : rd x (i : Int) = x[i] := rd_get x i h1
        by_cases h2 : j < y.length
        · have ey : rd y (j : Int) = y[j] := rd_get y j h2
          rcases Int.lt_trichotomy x[i] y[j] with hlt | heq | hgt
          · have inv' : UInv x y (out ++ [x[i]]) (i + 1) j := inv.next ⟨by omega, by omega⟩ ⟨by omega, by omega⟩ (fun u => by rw [mem_take1 x i h1]; constructor <;> (rintro ((h | h) | h) <;> simp [h])) (fun u hu => inv.hx u hu i h1 (Nat.le_refl _)) (fun k hk hik => asc_get hx (by omega) hk) (fun k hk hjk => by
              by_cases e : k = j
              · subst e; exact hlt
              · exact Int.lt_trans hlt (asc_get hy (by omega) hk))
            have hr := ih _ (by omega) (i + 1) j (out ++ [x[i]]) rfl (by omega) hj (by simp; omega) inv'
            refine Ev.step (f := fun k => spec_l4union.j1 k x y out i j true) (fun k => ?_) (Ev.step (f := fun k => spec_l4union.j2 k x y out i j true) (fun k => ?_) (Ev.step (f := fun k => spec_l4union.j3 k x y out i j x[i]) (fun k => ?_) (Ev.step (f := fun k => spec_l4union.j4 k x y out i j x[i] true) (fun k => ?_) (Ev.step (fun k => ?_) hr))))
            · simp only [spec_l4union.l0]; rw [if_pos (by omega)]
            · simp only [spec_l4union.j1]; rw [if_pos trivial, if_neg (by omega), if_pos (by omega), if_pos (by omega), if_pos (by omega), if_pos (by omega), ex, ey, decide_eq_true (by omega)]
            · simp only [spec_l4union.j2]; rw [if_pos trivial, if_pos (by omega), if_pos (by omega), ex]
            · simp only [spec_l4union.j3]; rw [if_pos (by omega), if_pos (by omega), ex, beq_self_eq_true]
            · simp only [spec_l4union.j4]; rw [if_pos trivial, if_pos (by omega), if_pos (by omega), ey, if_neg (by omega), if_pos (by omega), wrap_succ i (by omega)]
          · have inv' : UInv x y (out ++ [x[i]]) (i + 1) (j + 1) := inv.next ⟨by omega, by omega⟩ ⟨by omega, by omega⟩ (fun u => by rw [mem_take1 x i h1, mem_take1 y j h2, ← heq]; exact or_two _ _ _) (fun u hu => inv.hx u hu i h1 (Nat.le_refl _)) (fun k hk hik => asc_get hx (by omega) hk) (fun k hk hjk => by rw [heq]; exact asc_get hy (by omega) hk)
            have hr := ih _ (by omega) (i + 1) (j + 1) (out ++ [x[i]]) rfl (by omega) (by omega) (by simp; omega) inv'
            refine Ev.step (f := fun k => spec_l4union.j1 k x y out i j true) (fun k => ?_) (Ev.step (f := fun k => spec_l4union.j2 k x y out i j true) (fun k => ?_) (Ev.step (f := fun k => spec_l4union.j3 k x y out i j x[i]) (fun k => ?_) (Ev.step (f := fun k => spec_l4union.j4 k x y out i j x[i] true) (fun k => ?_) (Ev.step (fun k => ?_) hr))))
            · simp only [spec_l4union.l0]; rw [if_pos (by omega)]
            · simp only [spec_l4union.j1]; rw [if_pos trivial, if_neg (by omega), if_pos (by omega), if_pos (by omega), if_pos (by omega), if_pos (by omega), ex, ey, decide_eq_true (by omega)]
            · simp only [spec_l4union.j2]; rw [if_pos trivial, if_pos (by omega), if_pos (by omega), ex]
            · simp only [spec_l4union.j3]; rw [if_pos (by omega), if_pos (by omega), ex, beq_self_eq_true]
            · simp only [spec_l4union.j4]; rw [if_pos trivial, if_pos (by omega), if_pos (by omega), ey, if_pos (by omega), if_pos (by omega), wrap_succ i (by omega), wrap_succ j (by omega)]
          · have inv' : UInv x y (out ++ [y[j]]) i (j + 1) := inv.next ⟨by omega, by omega⟩ ⟨by omega, by omega⟩ (fun u => by rw [mem_take1 y j h2, or_assoc]) (fun u hu => inv.hy u hu j h2 (Nat.le_refl _)) (fun k hk hik => by
              by_cases e : k = i
              · subst e; exact hgt
              · exact Int.lt_trans hgt (asc_get hx (by omega) hk)) (fun k hk hjk => asc_get hy (by omega) hk)
            have hr := ih _ (by omega) i (j + 1) (out ++ [y[j]]) rfl hi (by omega) (by simp; omega) inv'
            refine Ev.step (f := fun k => spec_l4union.j1 k x y out i j true) (fun k => ?_) (Ev.step (f := fun k => spec_l4union.j2 k x y out i j false) (fun k => ?_) (Ev.step (f := fun k => spec_l4union.j3 k x y out i j y[j]) (fun k => ?_) (Ev.step (f := fun k => spec_l4union.j4 k x y out i j y[j] false) (fun k => ?_) (Ev.step (fun k => ?_) hr))))
            · simp only [spec_l4union.l0]; rw [if_pos (by omega)]
            · simp only [spec_l4union.j1]; rw [if_pos trivial, if_neg (by omega), if_pos (by omega), if_pos (by omega), if_pos (by omega), if_pos (by omega), ex, ey, decide_eq_false (by omega)]
            · simp only [spec_l4union.j2]; rw [if_neg (by simp), if_pos (by omega), if_pos (by omega), ey]
            · simp only [spec_l4union.j3]; rw [if_pos (by omega), if_pos (by omega), ex, beq_eq_false_iff_ne.2 (by omega)]
            · simp only [spec_l4union.j4]; rw [if_neg (by simp), if_pos (by omega), if_pos (by omega), ey, if_pos rfl, if_pos (by omega), wrap_succ j (by omega)]
        · have inv' : UInv x y (out ++ [x[i]]) (i + 1) j := inv.next ⟨by omega, by omega⟩ ⟨by omega, by omega⟩ (fun u => by rw [mem_take1 x i h1]; constructor <;> (rintro ((h | h) | h) <;> simp [h])) (fun u hu => inv.hx u hu i h1 (Nat.le_refl _)) (fun k hk hik => asc_get hx (by omega) hk) (fun k hk hjk => absurd hk (by omega))
          have hr := ih _ (by omega) (i + 1) j (out ++ [x[i]]) rfl (by omega) hj (by simp; omega) inv'
          refine Ev.step (f := fun k => spec_l4union.j1 k x y out i j true) (fun k => ?_) (Ev.step (f := fun k => spec_l4union.j2 k x y out i j true) (fun k => ?_) (Ev.step (f := fun k => spec_l4union.j3 k x y out i j x[i]) (fun k => ?_) (Ev.step (f := fun k => spec_l4union.j4 k x y out i j x[i] true) (fun k => ?_) (Ev.step (fun k => ?_) hr))))
          · simp only [spec_l4union.l0]; rw [if_pos (by omega)]
          · simp only [spec_l4union.j1]; rw [if_pos trivial, if_pos (by omega)]
          · simp only [spec_l4union.j2]; rw [if_pos trivial, if_pos (by omega), if_pos (by omega), ex]
          · simp only [spec_l4union.j3]; rw [if_pos (by omega), if_pos (by omega), ex, beq_self_eq_true]
          · simp only [spec_l4union.j4]; rw [if_pos trivial, if_neg (by omega), if_pos (by omega), wrap_succ i (by omega)]
      · by_cases h2 : j < y.length
        · have ey : rd y (j : Int) = y[j] := rd_get y j h2
          have inv' : UInv x y (out ++ [y[j]]) i (j + 1) := inv.next ⟨by omega, by omega⟩ ⟨by omega, by omega⟩ (fun u => by rw [mem_take1 y j h2, or_assoc]) (fun u hu => inv.hy u hu j h2 (Nat.le_refl _)) (fun k hk hik => absurd hk (by omega)) (fun k hk hjk => asc_get hy (by omega) hk)
          have hr := ih _ (by omega) i (j + 1) (out ++ [y[j]]) rfl hi (by omega) (by simp; omega) inv'
          refine Ev.step (f := fun k => spec_l4union.j1 k x y out i j true) (fun k => ?_) (Ev.step (f := fun k => spec_l4union.j2 k x y out i j false) (fun k => ?_) (Ev.step (f := fun k => spec_l4union.j3 k x y out i j y[j]) (fun k => ?_) (Ev.step (f := fun k => spec_l4union.j4 k x y out i j y[j] false) (fun k => ?_) (Ev.step (fun k => ?_) hr))))
          · simp only [spec_l4union.l0]; rw [if_neg (by omega), decide_eq_true (by omega)]
          · simp only [spec_l4union.j1]; rw [if_pos trivial, if_neg (by omega), if_neg (by omega)]
          · simp only [spec_l4union.j2]; rw [if_neg (by simp), if_pos (by omega), if_pos (by omega), ey]
          · simp only [spec_l4union.j3]; rw [if_neg (by omega)]
          · simp only [spec_l4union.j4]; rw [if_neg (by simp), if_pos (by omega), if_pos (by omega), ey, if_pos rfl, if_pos (by omega), wrap_succ j (by omega)]
        · have e : out = ord (x ++ y) := ord_unique inv.asc (fun v => by
            rw [inv.mem v, List.take_of_length_le (by omega), List.take_of_length_le (by omega), List.mem_append])
          rw [← e]
          refine Ev.step (f := fun k => spec_l4union.j1 k x y out i j false) (fun k => ?_) (Ev.step (f := fun _ => some out) (fun k => ?_) (Ev.now _))
          · simp only [spec_l4union.l0]; rw [if_neg (by omega), decide_eq_false (by omega)]
          · simp only [spec_l4union.j1]; rw [if_neg (by simp)]
  have h := key _ 0 0 [] rfl (Nat.zero_le _) (Nat.zero_le _) (by simp) ⟨by simp, by simp, by simp, by simp⟩
  exact Ev.congr (fun k => by simp only [spec_l4union.f]; rfl) h
theorem flat_len (ls : List (List Int)) : (ls.flatMap tris).length ≤ totalB ls := by
  induction ls with
  | nil => simp [totalB]
  | cons l r ih =>
    rw [List.flatMap_cons, List.length_append, tris_length]
    simp only [totalB]
    omega
theorem keys_ev : ∀ (n : Nat) (ls : List (List Int)), ls.length ≤ n → Bytes ls → smallBB ls → Ev (fun k => spec_l4keys.f k ls) (keys ls) := by
  intro n
  induction n with
  | zero =>
    intro ls hn _ _
    obtain rfl := List.length_eq_zero_iff.1 (Nat.le_zero.1 hn)
    exact Ev.step (f := fun _ => some []) (fun k => by simp [spec_l4keys.f]) (Ev.now _)
  | succ n ih =>
    intro ls hn hb hs
    have hs' : ls.length + totalB ls ≤ 1048576 := hs
    by_cases h0 : ls.length = 0
    · obtain rfl := List.length_eq_zero_iff.1 h0
      exact Ev.step (f := fun _ => some []) (fun k => by simp [spec_l4keys.f]) (Ev.now _)
    by_cases h1 : ls.length = 1
    · obtain ⟨l, rfl⟩ := List.length_eq_one_iff.1 h1
      have e : keys [l] = ord (tris l) := by simp [keys]
      rw [e]
      refine Ev.step (f := fun k => (spec_Trigrams.f k l).bind fun t => some t) (fun k => ?_) (Ev.bind (spec_ev l (hb l (by simp)) (by simp [totalB] at hs'; omega)) (Ev.now _))
      simp only [spec_l4keys.f]
      rw [if_neg (by simp), if_pos (by simp), if_pos (by simp)]
      rfl
    have hw : wrap64 ((ls.length : Int) / 2) = ((ls.length / 2 : Nat) : Int) := by rw [wrap_in (by omega)]; omega
    have hm1 : (ls.take (ls.length / 2)).length = ls.length / 2 := by rw [List.length_take]; omega
    have hm2 : (ls.drop (ls.length / 2)).length = ls.length - ls.length / 2 := List.length_drop ..
    have htot : totalB (ls.take (ls.length / 2)) + totalB (ls.drop (ls.length / 2)) = totalB ls := by rw [← total_append, List.take_append_drop]
    have e1 := ih (ls.take (ls.length / 2)) (by omega) (fun l hl => hb l (List.mem_of_mem_take hl)) (by show _ + _ ≤ _; omega)
    have e2 := ih (ls.drop (ls.length / 2)) (by omega) (fun l hl => hb l (List.mem_of_mem_drop hl)) (by show _ + _ ≤ _; omega)
    have o1 := ord_len ((ls.take (ls.length / 2)).flatMap tris)
    have o2 := ord_len ((ls.drop (ls.length / 2)).flatMap tris)
    have f1 := flat_len (ls.take (ls.length / 2))
    have f2 := flat_len (ls.drop (ls.length / 2))
    have hu := union_ev (keys (ls.take (ls.length / 2))) (keys (ls.drop (ls.length / 2))) (asc_ord _) (asc_ord _) (by unfold keys; omega)
    have e : ord (keys (ls.take (ls.length / 2)) ++ keys (ls.drop (ls.length / 2))) = keys ls := by
      refine ord_unique (asc_ord _) (fun v => ?_)
      rw [mem_ord, List.mem_append]
      unfold keys
      rw [mem_ord, mem_ord, ← List.mem_append, ← List.flatMap_append, List.take_append_drop]
    rw [e] at hu
    refine Ev.step (f := fun k => (spec_l4keys.f k (ls.take (ls.length / 2))).bind fun t274 => ((spec_l4keys.f k (ls.drop (ls.length / 2))).bind fun t281 => ((spec_l4union.f k t274 t281).bind fun t284 => (some t284)))) (fun k => ?_) (Ev.bind e1 (Ev.bind e2 (Ev.bind hu (Ev.now _))))
    simp only [spec_l4keys.f]
    rw [if_neg (by omega), if_neg (by omega), hw, if_pos (by omega), if_pos (by omega)]
    simp only [Int.toNat_natCast]
theorem keys_len (ls : List (List Int)) : (keys ls).length ≤ totalB ls := Nat.le_trans (ord_len _) (flat_len ls)
theorem build_ev (b : Int) (ls : List (List Int)) (hb : Bytes ls) (hs : smallBB ls) (b0 : 0 ≤ b) (b1 : b ≤ 1000) : Ev (fun k => spec_l4build.f k b ls) (seg b ls) := by
  have hs' : ls.length + totalB ls ≤ 1048576 := hs
  have hk := keys_len ls
  let tl : List (List Int) := ls.map fun l => ord (tris l)
  have htl : tl.length = ls.length := by simp [tl]
  have hget : ∀ i, i < ls.length → tl.getD i [] = ord (tris (ls.getD i [])) := fun i hi => by simp [tl, List.getD, List.getElem?_eq_getElem hi]
  have L2 : ∀ (q : Nat) (P : List (List Int)), q < (keys ls).length → P.length = q → Ev (fun k => spec_l4build.l1 k b ls tl ((q + 1 : Nat) : Int) b ls (keys ls) (P ++ [post b ls ls.length ((keys ls).getD q 0)])) (seg b ls) →
      ∀ (d i : Nat), i + d = ls.length → Ev (fun k => spec_l4build.l2 k b ls tl (q : Int) (post b ls i ((keys ls).getD q 0)) (i : Int) b ls (keys ls) P) (seg b ls) := by
    intro q P hq hP hnext d
    induction d with
    | zero =>
      intro i hd
      have e : i = ls.length := by omega
      subst e
      refine Ev.step (fun k => ?_) hnext
      simp only [spec_l4build.l2]
      rw [if_neg (by omega), if_pos (by omega), wrap_succ q (by omega)]
    | succ d ih =>
      intro i hd
      have hpl := post_len b ls i ((keys ls).getD q 0)
      have hi := inList_ev (tl.getD i []) ((keys ls).getD q 0) (by rw [hget i (by omega)]; have h1 := ord_len (tris (ls.getD i [])); have h2 := tris_length (ls.getD i []); have h3 := getD_len ls i; omega)
      have hdec : decide ((keys ls).getD q 0 ∈ tl.getD i []) = hasT ls ((keys ls).getD q 0) i := by
        unfold hasT
        rw [hget i (by omega)]
        exact decide_eq_decide.2 (mem_ord _ _)
      rw [hdec] at hi
      have hr := ih (i + 1) (by omega)
      rw [post_succ] at hr
      refine Ev.step (f := fun k => (spec_l2inList.f k (tl.getD i []) ((keys ls).getD q 0)).bind fun t305 => (if t305 = true then (spec_l4build.l2 k b ls tl (q : Int) (post b ls i ((keys ls).getD q 0) ++ [b + (i : Int)]) ((i + 1 : Nat) : Int) b ls (keys ls) P) else (spec_l4build.l2 k b ls tl (q : Int) (post b ls i ((keys ls).getD q 0)) ((i + 1 : Nat) : Int) b ls (keys ls) P))) (fun k => ?_) (Ev.bind hi ?_)
      · simp only [spec_l4build.l2]
        have e3 : rd_L3 tl (i : Int) = tl.getD i [] := rfl
        rw [if_pos (by omega), if_pos (by omega), if_pos (by omega), if_pos (by omega), if_pos (by omega), e3, rd_at, if_pos (by omega), wrap_in (x := b + (i : Int)) (by omega), wrap_succ i (by omega)]
      · by_cases hh : hasT ls ((keys ls).getD q 0) i = true
        · rw [if_pos hh] at hr
          exact Ev.congr (fun k => by rw [if_pos hh]) hr
        · rw [if_neg hh, List.append_nil] at hr
          exact Ev.congr (fun k => by rw [if_neg hh]) hr
  have L1 : ∀ (d q : Nat), q + d = (keys ls).length → Ev (fun k => spec_l4build.l1 k b ls tl (q : Int) b ls (keys ls) (((keys ls).take q).map (post b ls ls.length))) (seg b ls) := by
    intro d
    induction d with
    | zero =>
      intro q hd
      rw [List.take_of_length_le (by omega)]
      refine Ev.step (f := fun _ => some (seg b ls)) (fun k => ?_) (Ev.now _)
      simp only [spec_l4build.l1]
      rw [if_neg (by omega)]
      rfl
    | succ d ih =>
      intro q hd
      have hr := ih (q + 1) (by omega)
      have et : (keys ls).take (q + 1) = (keys ls).take q ++ [(keys ls).getD q 0] := by
        rw [List.take_succ_eq_append_getElem (by omega)]
        simp [List.getD, List.getElem?_eq_getElem (show q < (keys ls).length by omega)]
      rw [et, List.map_append] at hr
      refine Ev.step (fun k => ?_) (L2 q _ (by omega) (by rw [List.length_map, List.length_take]; omega) hr ls.length 0 (by omega))
      simp only [spec_l4build.l1]
      rw [if_pos (by omega), show post b ls 0 ((keys ls).getD q 0) = [] from rfl]
      rfl
  have L0 : ∀ (d i : Nat), i + d = ls.length → Ev (fun k => spec_l4build.l0 k b ls (tl.take i) (i : Int) b ls (keys ls)) (seg b ls) := by
    intro d
    induction d with
    | zero =>
      intro i hd
      rw [List.take_of_length_le (by omega)]
      refine Ev.step (fun k => ?_) (L1 (keys ls).length 0 (by omega))
      simp only [spec_l4build.l0]
      rw [if_neg (by omega)]
      rfl
    | succ d ih =>
      intro i hd
      have hr := ih (i + 1) (by omega)
      rw [take_snoc tl i (by omega), hget i (by omega)] at hr
      refine Ev.step (f := fun k => (spec_Trigrams.f k (ls.getD i [])).bind fun t297 => (if (tl.take i).length < 5864062014805 then (spec_l4build.l0 k b ls (tl.take i ++ [t297]) ((i + 1 : Nat) : Int) b ls (keys ls)) else none)) (fun k => ?_) (Ev.bind (spec_ev _ (getD_bytes hb i) (by have := getD_len ls i; omega)) (Ev.congr (fun k => by rw [if_pos (by rw [List.length_take]; omega)]) hr))
      simp only [spec_l4build.l0]
      rw [if_pos (by omega), if_pos (by omega), rdB, wrap_succ i (by omega)]
  have h0 := L0 ls.length 0 (by omega)
  have h1 : Ev (fun k => (spec_l4copy.f k ls).bind fun t289 => ((spec_l4keys.f k ls).bind fun t293 => (spec_l4build.l0 k b ls ([] : List (List Int)) 0 b t289 t293))) (seg b ls) := Ev.bind (copy_ev ls hs) (Ev.bind (keys_ev _ ls (Nat.le_refl _) hb hs) h0)
  exact Ev.congr (fun k => by simp only [spec_l4build.f]) h1
theorem spec_ev (b : Int) (ls : List (List Int)) (hb : Bytes ls) (hs : smallBB ls) : Ev (fun k => spec_BuildSegment.f k b ls) ((build b ls).1.1, (build b ls).1.2.1, (build b ls).1.2.2.1, (build b ls).1.2.2.2, (build b ls).2) := by
  have h1 : Ev (fun k => (spec_l4fits.f k b ls).bind fun t313 => (if t313 = true then ((spec_l4build.f k b ls).bind fun bt314 => (some (bt314.1, bt314.2.1, bt314.2.2.1, bt314.2.2.2, (0 : Int)))) else (some (0, ([] : List (List Int)), ([] : List Int), ([] : List (List Int)), 4)))) ((build b ls).1.1, (build b ls).1.2.1, (build b ls).1.2.2.1, (build b ls).1.2.2.2, (build b ls).2) := by
    refine Ev.bind (fits_ev b ls hs) ?_
    cases hf : fits b ls with
    | false =>
      have e : build b ls = ((0, [], [], []), 4) := by unfold build; rw [if_neg (by rw [hf]; simp)]
      rw [e]
      exact Ev.congr (fun k => by rw [if_neg (by simp)]) (Ev.now _)
    | true =>
      have e : build b ls = (seg b ls, 0) := by unfold build; rw [if_pos hf]
      have hbd : 0 ≤ b ∧ b ≤ 1000 := by
        unfold fits at hf
        simp only [Bool.and_eq_true, decide_eq_true_eq] at hf
        exact ⟨hf.1.1.1.1.1, hf.1.1.1.1.2⟩
      rw [e]
      exact Ev.congr (fun k => by rw [if_pos rfl]) (Ev.bind (build_ev b ls hb hs hbd.1 hbd.2) (Ev.now _))
  exact Ev.congr (fun k => by simp only [spec_BuildSegment.f]) h1
end Go.Proofs.Ytmgmdnmfalepkaa.PSeg

namespace Go.Proofs
open Go.Shelf
def Try.lays189_ren : Go.Shelf.Ren := ⟨fun | 189 => 75 | 125 => 129 | 257 => 128 | 128 => 166 | 129 => 167 | 294 => 157 | 295 => 158 | 296 => 159 | 297 => 160 | 298 => 161 | 299 => 162 | 216 => 163 | 300 => 164 | 301 => 165 | 328 => 175 | 329 => 176 | 330 => 177 | 331 => 178 | 332 => 179 | 215 => 180 | 343 => 184 | n => n, fun | 28 => 22 | 3 => 3 | 46 => 140 | 0 => 0 | 51 => 157 | 53 => 183 | 4 => 4 | 183 => 175 | 182 => 174 | 131 => 89 | 5 => 5 | 9 => 9 | 218 => 188 | 222 => 192 | 228 => 197 | 229 => 149 | n => n, fun | n => n⟩
theorem Try.lays189 : Go.Proofs.Lays.n189 Try.prog Try.lays189_ren := {
  mixed := by kernel_rfl
  f125 := Try.func129.trans (congrArg some (by kernel_rfl))
  f128 := Try.func166.trans (congrArg some (by kernel_rfl))
  f129 := Try.func167.trans (congrArg some (by kernel_rfl))
  f189 := Try.func75.trans (congrArg some (by kernel_rfl))
  f215 := Try.func180.trans (congrArg some (by kernel_rfl))
  f216 := Try.func163.trans (congrArg some (by kernel_rfl))
  f257 := Try.func128.trans (congrArg some (by kernel_rfl))
  f294 := Try.func157.trans (congrArg some (by kernel_rfl))
  f295 := Try.func158.trans (congrArg some (by kernel_rfl))
  f296 := Try.func159.trans (congrArg some (by kernel_rfl))
  f297 := Try.func160.trans (congrArg some (by kernel_rfl))
  f298 := Try.func161.trans (congrArg some (by kernel_rfl))
  f299 := Try.func162.trans (congrArg some (by kernel_rfl))
  f300 := Try.func164.trans (congrArg some (by kernel_rfl))
  f301 := Try.func165.trans (congrArg some (by kernel_rfl))
  f328 := Try.func175.trans (congrArg some (by kernel_rfl))
  f329 := Try.func176.trans (congrArg some (by kernel_rfl))
  f330 := Try.func177.trans (congrArg some (by kernel_rfl))
  f331 := Try.func178.trans (congrArg some (by kernel_rfl))
  f332 := Try.func179.trans (congrArg some (by kernel_rfl))
  f343 := Try.func184.trans (congrArg some (by kernel_rfl))
  t0 := Try.underlying0
  a0 := Try.isAgg0
  z0 := Try.sizeOf0
  v0 := Try.zeroValue0
  t3 := Try.underlying3
  a3 := Try.isAgg3
  z3 := Try.sizeOf3
  v3 := Try.zeroValue3
  t4 := Try.underlying4
  a4 := Try.isAgg4
  z4 := Try.sizeOf4
  v4 := Try.zeroValue4
  t5 := Try.underlying5
  a5 := Try.isAgg5
  z5 := Try.sizeOf5
  v5 := Try.zeroValue5
  t9 := Try.underlying9
  a9 := Try.isAgg9
  z9 := Try.sizeOf9
  v9 := Try.zeroValue9
  t28 := Try.underlying22
  a28 := Try.isAgg22
  z28 := Try.sizeOf22
  v28 := Try.zeroValue22
  t46 := Try.underlying140
  a46 := Try.isAgg140
  z46 := Try.sizeOf140
  v46 := Try.zeroValue140
  t51 := Try.underlying157
  a51 := Try.isAgg157
  z51 := Try.sizeOf157
  v51 := Try.zeroValue157
  t53 := Try.underlying183
  a53 := Try.isAgg183
  z53 := Try.sizeOf183
  v53 := Try.zeroValue183
  t131 := Try.underlying89
  a131 := Try.isAgg89
  z131 := Try.sizeOf89
  v131 := Try.zeroValue89
  t182 := Try.underlying174
  a182 := Try.isAgg174
  z182 := Try.sizeOf174
  v182 := Try.zeroValue174
  t183 := Try.underlying175
  a183 := Try.isAgg175
  z183 := Try.sizeOf175
  v183 := Try.zeroValue175
  t218 := Try.underlying188
  a218 := Try.isAgg188
  z218 := Try.sizeOf188
  v218 := Try.zeroValue188
  t222 := Try.underlying192
  a222 := Try.isAgg192
  z222 := Try.sizeOf192
  v222 := Try.zeroValue192
  t228 := Try.underlying197
  a228 := Try.isAgg197
  z228 := Try.sizeOf197
  v228 := Try.zeroValue197
  t229 := Try.underlying149
  a229 := Try.isAgg149
  z229 := Try.sizeOf149
  v229 := Try.zeroValue149 }
open Go.Sort Go.RowKit in
theorem Try.slices_Sort_int (blk off cap : Nat) (zs : List Int) (w : World) (hH : Holds (Value.int .i64) w blk off zs.toArray) (hblk : blk < w.heap.size) (hsz : zs.length < 4611686018427387904) :
    Calls Try.prog 75 #[.slice (some ⟨blk, off, none⟩) zs.length cap] w fun e w' =>
      e = .returned (.tuple #[]) ∧ ∃ n os, w' = grow (putRow (Value.int .i64) (Sort.ahead w n) blk off (zs.mergeSort fun x y => decide (x ≤ y)).toArray) os := Any.slices_Sort_int Try.lays189 blk off cap zs w hH hblk hsz
def Try.laysNm220_ren : Go.Shelf.Ren := ⟨fun | 20 => 76 | n => n, fun | 22 => 22 | 3 => 3 | 4 => 4 | 0 => 0 | n => n, fun | n => n⟩
theorem Try.laysNm220 : Go.Proofs.Lays2.n20 Try.prog Try.laysNm220_ren := {
  mixed := by kernel_rfl
  f20 := Try.func76.trans (congrArg some (by kernel_rfl))
  t0 := Try.underlying0
  a0 := Try.isAgg0
  z0 := Try.sizeOf0
  v0 := Try.zeroValue0
  t3 := Try.underlying3
  a3 := Try.isAgg3
  z3 := Try.sizeOf3
  v3 := Try.zeroValue3
  t4 := Try.underlying4
  a4 := Try.isAgg4
  z4 := Try.sizeOf4
  v4 := Try.zeroValue4
  t22 := Try.underlying22
  a22 := Try.isAgg22
  z22 := Try.sizeOf22
  v22 := Try.zeroValue22
  i3 := by kernel_rfl }
open Go.RowKit Go.Lib Go.Sort in
theorem Try.slices_Compact_int (blk off cap : Nat) (zs : List Int) (w : World) (hH : Holds (Value.int .i64) w blk off zs.toArray) (hsz : zs.length ≤ 9223372036854775807) (hcap : zs.length ≤ cap) :
    Calls Try.prog 76 #[.slice (some ⟨blk, off, none⟩) zs.length cap] w fun e w' => e = .returned (.slice (some ⟨blk, off, none⟩) (Lib.compact zs).length cap) ∧ ∃ q, w' = putRow (Value.int .i64) (Sort.ahead w q) blk off (Lib.compact zs ++ List.replicate (zs.length - (Lib.compact zs).length) 0).toArray := Any.slices_Compact_int Try.laysNm220 blk off cap zs w hH hsz hcap
open Go.RowKit Go.Lib Go.Sort in
theorem Try.slices_Compact_int_empty (a : Option Addr) (cap : Nat) (w : World) :
    Calls Try.prog 76 #[.slice a 0 cap] w fun e w' => e = .returned (.slice a 0 cap) ∧ w' = w := Any.slices_Compact_int_empty Try.laysNm220 a cap w
open Go.RowKit Go.Sort in
theorem Try.slices_Sort_int_none (p : Option Addr) (cap : Nat) (w : World) :
    Calls Try.prog 75 #[.slice p 0 cap] w fun e w' => e = .returned (.tuple #[]) ∧ w' = w := Any.slices_Sort_int_none Try.lays189 p cap w
def Try.lays187_ren : Go.Shelf.Ren := ⟨fun | 187 => 137 | 255 => 169 | n => n, fun | 37 => 33 | 5 => 5 | 3 => 3 | n => n, fun | n => n⟩
theorem Try.lays187 : Go.Proofs.Lays.n187 Try.prog Try.lays187_ren := {
  mixed := by kernel_rfl
  f187 := Try.func137.trans (congrArg some (by kernel_rfl))
  f255 := Try.func169.trans (congrArg some (by kernel_rfl))
  t3 := Try.underlying3
  a3 := Try.isAgg3
  z3 := Try.sizeOf3
  v3 := Try.zeroValue3
  t5 := Try.underlying5
  a5 := Try.isAgg5
  z5 := Try.sizeOf5
  v5 := Try.zeroValue5
  t37 := Try.underlying33
  a37 := Try.isAgg33
  z37 := Try.sizeOf33
  v37 := Try.zeroValue33 }
open Go.RowKit Go.Lib in
theorem Try.bytes_IndexByte_at (a : Addr) (n c : Nat) (xs : List Int) (cv : Int) (w : World) (hx : xs.length = n) (hc : ∀ i, i < n → w.cell? (a.add i) = some (.int .u8 (xs.getD i 0))) :
    Calls Try.prog 137 #[.slice (some a) n c, .int .u8 cv] w fun e w' => e = .returned (.int .i64 (Lib.indexByte (Lib.bytesOf xs) cv.toNat.toUInt8)) ∧ w' = w := Any.bytes_IndexByte_at Try.lays187 a n c xs cv w hx hc
end Go.Proofs

namespace Go.Proofs.Ytmgmdnmfalepkaa.Build
open Go.RowKit Go.Proofs.YtmgmdnmfalepkaaW.PrintWords Go.Proofs.YtmgmdnmfalepkaaW.PrintMore Go.Proofs.Ytmgmdnmfalepkaa.Kit Go.Proofs.Ytmgmdnmfalepkaa.PKit Go.Proofs.Ytmgmdnmfalepkaa.Ty Go.Proofs.Ytmgmdnmfalepkaa.HelpBB Go.Proofs.Ytmgmdnmfalepkaa.PSeg
set_option linter.unusedVariables false
theorem infoBB : (Try.prog.info? 33).map (fun i => (i.zero, i.size, i.bytes)) = some (some (.slice none 0 0), 1, 24) := by kernel_rfl
theorem infoB : (Try.prog.info? 5).map (fun i => (i.zero, i.size, i.bytes)) = some (some (.int .u8 0), 1, 1) := by kernel_rfl
theorem cellB {w : World} {ad : Addr} {n : Nat} {xs : List Int} (h : Kd.C (Kd.int .u8) w (some ad) n xs) (i : Nat) (hi : i < n) : w.cell? (ad.add i) = some (.int .u8 (xs.getD i 0)) := by
  obtain ⟨ad', c, e, _, hK, hc0⟩ := Kd.C_get h 0 (i : Int) (by omega) (by omega)
  cases e
  rw [Int.toNat_natCast] at hK hc0
  have hk : c = [.int .u8 (xs.getD i 0)] := hK
  subst hk
  have := hc0 0 _ rfl
  simpa [Kd.int, Kd.scalar] using this
theorem index_neg (t : List Int) (hb : ∀ x ∈ t, 0 ≤ x ∧ x ≤ 255) : decide (Go.Lib.indexByte (Go.Lib.bytesOf t) ((10 : Int).toNat.toUInt8) < 0) = decide (10 ∉ t) := by
  induction t with
  | nil => rfl
  | cons x r ih =>
    have ih := ih (fun y hy => hb y (List.mem_cons_of_mem _ hy))
    obtain ⟨b0, b1⟩ := hb x (List.mem_cons_self ..)
    have e : Go.Lib.bytesOf (x :: r) = UInt8.ofNat x.toNat :: Go.Lib.bytesOf r := rfl
    rw [e]
    unfold Go.Lib.indexByte
    by_cases h10 : x = 10
    · subst h10
      rw [if_pos (by rfl), decide_eq_false (by omega), decide_eq_false (by simp)]
    · have hne : (UInt8.ofNat x.toNat == (10 : Int).toNat.toUInt8) = false := by
        rw [beq_eq_false_iff_ne]
        intro h
        have h2 := congrArg UInt8.toNat h
        rw [UInt8.toNat_ofNat'] at h2
        have h3 : ((10 : Int).toNat.toUInt8).toNat = 10 := rfl
        rw [h3] at h2
        omega
      have em : decide (10 ∉ x :: r) = decide (10 ∉ r) := decide_eq_decide.2 (by
        constructor
        · exact fun h hm => h (List.mem_cons_of_mem _ hm)
        · exact fun h hm => by
            rcases List.mem_cons.1 hm with e | hm
            · exact h10 e.symm
            · exact h hm)
      rw [hne, if_neg (by simp), em, ← ih]
      have hge := Go.Lib.indexByte_ge (Go.Lib.bytesOf r) ((10 : Int).toNat.toUInt8)
      generalize Go.Lib.indexByte (Go.Lib.bytesOf r) ((10 : Int).toNat.toUInt8) = q at hge ⊢
      by_cases hq : q = -1
      · subst hq
        rfl
      · have : (q == -1) = false := by rw [beq_eq_false_iff_ne]; exact hq
        rw [this, if_neg (by simp)]
        exact decide_eq_decide.2 (by omega)
set_option maxRecDepth 100000 in
theorem index_none (c : Nat) (cv : Int) (w : World) :
    Calls Try.prog 137 #[.slice none 0 c, .int .u8 cv] w fun e w' => e = .returned (.int .i64 (-1)) ∧ w' = w := by
  go_enter Try.func137, Try.ntmps137
  go_wp2
  rw [run_callFunc_extern Try.func169 (by kernel_rfl) (by kernel_rfl) (by kernel_rfl) (e := Extern.BytealgIndexByte.indexByte) (by kernel_rfl), Lib.run_indexByteNil w 0 c cv]
  simp only [Result.andThen]
  rw [Oper.upon_value]
  go_wp2
  go_ret
  exact ⟨rfl, rfl⟩
theorem index_calls (A : Option Addr) (c : Nat) (t : List Int) (w : World) (hr : Kd.C (Kd.int .u8) w A t.length t) (hc : t.length ≤ c) (hb : ∀ x ∈ t, 0 ≤ x ∧ x ≤ 255) :
    Calls Try.prog 137 #[.slice A t.length c, .int .u8 10] w fun e w' => (∃ q : Int, e = .returned (.int .i64 q) ∧ decide (q < 0) = decide (10 ∉ t)) ∧ w' = w := by
  rcases A with _ | ad
  · have h0 : t = [] := by
      rcases t with _ | ⟨x, r⟩
      · rfl
      · obtain ⟨ad, h, _⟩ := hr.2.2 (by simp)
        cases h
    subst h0
    refine (index_none c 10 w).mono ?_
    rintro e w' ⟨rfl, rfl⟩
    exact ⟨⟨-1, rfl, by decide⟩, rfl⟩
  · refine (Try.bytes_IndexByte_at ad t.length c t 10 w rfl (fun i hi => cellB hr i hi)).mono ?_
    rintro e w' ⟨rfl, rfl⟩
    exact ⟨⟨_, rfl, index_neg t hb⟩, rfl⟩
theorem one_calls (A : Option Addr) (c : Nat) (t : List Int) (w : World) (hr : Kd.C (Kd.int .u8) w A t.length t) (hc : t.length ≤ c) (hb : ∀ x ∈ t, 0 ≤ x ∧ x ≤ 255) :
    Calls Try.prog 93 #[.slice A t.length c] w fun e w' => e = .returned (.bool (decide (10 ∉ t))) ∧ w' = w := by
  have hi := index_calls A c t w hr hc hb
  clear hr hc hb
  go_enter Try.func93, Try.ntmps93
  go_wp2_with (go_at_call 137; refine hi.mono ?_; rintro e w' ⟨⟨q, rfl, hq⟩, rfl⟩)
  go_ret
  exact ⟨by simp, rfl⟩
set_option maxHeartbeats 2000000 in
theorem total_calls (A : Option Addr) (c : Nat) (ls : List (List Int)) (w : World) (hr : Kd.C kB w A ls.length ls) (hc : ls.length ≤ c) (hs : smallBB ls) :
    Calls Try.prog 94 #[.slice A ls.length c] w fun e w' => e = .returned (.int .i64 (totalB ls : Int)) ∧ w' = w := by
  have hs' : ls.length + totalB ls ≤ 1048576 := hs
  have HR := Aside0.mk hr
  clear hr
  go_enter Try.func94, Try.ntmps94
  go_wp2
  go_loopg [3, 8] ls.length (fun gg s3 s8 wr => ∃ i : Nat, i ≤ ls.length ∧ ls.length - i ≤ gg ∧ s3 = .int .i64 (totalB (ls.take i) : Int) ∧ s8 = .int .i64 i ∧ wr = w)
  case atStart => exact ⟨0, by omega, by omega, by simp [totalB], rfl, rfl⟩
  case round =>
    obtain ⟨i, hi, hg, rfl, rfl, rfl⟩ := hrel
    by_cases hlt : i < ls.length
    · have hltz : (i : Int) < (ls.length : Int) := by omega
      have ht := total_take ls (i + 1)
      rw [total_drop ls i hlt] at ht
      obtain ⟨ad, u, rfl, hcell, hK⟩ := get_one (d := kB) rfl HR.out [] i hlt
      obtain ⟨A', c', e', hc', hr'⟩ := hK
      obtain rfl : u = .slice A' (ls.getD i []).length c' := by injection e'
      clear hc' hr' e'
      have hd := total_drop ls i hlt
      generalize hx : ls.getD i [] = l at ht hcell hd
      clear hx
      go_wp2
      go_roundg (ls.length - (i + 1))
      case measure => omega
      case rel => exact ⟨i + 1, by omega, by omega, by rw [hd]; go_num, by go_num, rfl⟩
    · have hltz : ¬ (i : Int) < (ls.length : Int) := by omega
      obtain rfl : i = ls.length := by omega
      go_wp2
      go_ret
      exact ⟨by first | rfl | simp, rfl⟩
theorem R_empty (W : World) : Kd.R (Kd.int .u8) 5 (W.alloc (.cells #[] 5)) W.heap.size (fun _ => True) (.slice (some ⟨W.heap.size, 0, none⟩) 0 0) [] :=
  Kd.R_of_own (xs := ([] : List Int)) ⟨rfl, .inr ⟨W.heap.size, 0, #[], rfl, Nat.le_refl _, heap_alloc_new W _, by simp, by simp [maxLen], rfl, rfl⟩⟩ (fun _ _ => trivial)
set_option maxRecDepth 100000 in
set_option maxHeartbeats 4000000 in
theorem copy_calls (A : Option Addr) (c : Nat) (ls : List (List Int)) (w : World) (hr : Kd.C kB w A ls.length ls) (hc : ls.length ≤ c) (hs : smallBB ls) :
    Calls Try.prog 95 #[.slice A ls.length c] w fun e w' => ∃ v, e = .returned v ∧ Kd.S kB 33 w' w.heap.size (fun _ => True) v ls ∧ Grew w w' := by
  have hs' : ls.length + totalB ls ≤ 1048576 := hs
  have HR := Aside0.mk hr
  clear hr
  go_enter Try.func95, Try.ntmps95
  go_wp2
  go_loopg [3, 9] ls.length (fun gg s3 s9 wr => ∃ i : Nat, i ≤ ls.length ∧ ls.length - i ≤ gg ∧ s9 = .int .i64 i ∧ Aside0 (Kd.S kB 33 wr w.heap.size (fun _ => True) s3 (ls.take i)) ∧ Aside0 (Below w.heap.size w wr))
  case atStart => exact ⟨0, by omega, by omega, rfl, ⟨⟨fun _ => 0, fun _ _ => trivial, [], ⟨rfl, .inr ⟨w.heap.size, 0, #[], rfl, Nat.le_refl _, heap_alloc_new w _, by simp, by simp [maxLen], rfl, rfl⟩⟩, Reps.none _ _⟩⟩, ⟨below_alloc (Below.refl _ _) _⟩⟩
  case round =>
    obtain ⟨i, hi, hg, rfl, HS, HB⟩ := hrel
    by_cases hlt : i < ls.length
    · have hltz : (i : Int) < (ls.length : Int) := by omega
      have ht := getD_len ls i
      obtain ⟨ad, u, rfl, hcell0, hK⟩ := get_one (d := kB) rfl HR.out [] i hlt
      obtain ⟨A', c', e', hc', hr'⟩ := hK
      obtain rfl : u = .slice A' (ls.getD i []).length c' := by injection e'
      have hcell : wr.cell? (ad.add i) = some (.slice A' (ls.getD i []).length c') := (HB.out.cell (World.block_lt_of_cell? w _ hcell0)).trans hcell0
      have HC := Aside0.mk (Kd.C_below hr' HB.out)
      have hts := take_snoc ls i hlt
      clear hr' e' hcell0
      generalize hx : ls.getD i [] = l at ht hcell HC hts hc'
      clear hx
      go_wp2_with (first | (at_builtin; refine Kd.R_append_rows (Kd.int .u8) (Rr := (Kd.int .u8).K wr) (w0 := wr) wr.heap.size rfl (.tmp 14) (.tmp 15) 33 5 (.int .u8 0) 1 rfl Try.underlying33 infoB rfl (by decide) (by decide) (.slice (some ⟨wr.heap.size, 0, none⟩) 0 0) [] l A' l.length c' (fun _ => True) (fun _ => False) rfl rfl (R_empty wr) (Kd.C_alloc HC.out _) (fun x cs h => h) (fun _ h => h.elim) (fun _ _ => trivial) (below_alloc (Below.refl _ _) _) (by simp) (by simp; omega) ?_; rintro v1 w1 hR1 hB1 hg1 hat1; rw [List.nil_append] at hR1; obtain ⟨Av, cv, rfl⟩ := Kd.R_slice hR1) | (at_builtin; refine Kd.S_append kB (w0 := w) w.heap.size rfl (.tmp 13) (.tmp 17) 41 33 (.slice none 0 0) 24 rfl Try.underlying41 infoBB rfl (by decide) (by omega) u3 (ls.take i) l [.slice Av l.length cv] (fun _ => True) (fun k_ => some k_ = (.slice Av l.length cv : Value).ownBlock) rfl rfl ?aP ?aK (fun _ _ => trivial) ?aO ?aB ?aS ?aL ?_; (case aP => exact Kd.M_row (Kd.R_lower (Kd.R_tight rfl hR1) HB.out.size)); (case aK => exact fun k hk => ⟨trivial, fun e => by have h1 := Kd.R_base hR1 k hk.symm; have h2 := Kd.S_lt HS.out k e.symm; omega⟩); (case aO => exact Kd.S_mono (Kd.S_old HS.out hB1) (fun k hk => ⟨trivial, fun e => by have h1 := Kd.R_base hR1 k e.symm; have h2 := hk.2; omega⟩)); (case aB => exact grew_trans HB.out hB1); (case aS => exact (grew_trans HB.out hB1).size); (case aL => (rw [List.length_take]; omega)); intro v2 w2 hO2 hB2 hg2 hat2))
      go_roundg (ls.length - (i + 1))
      case measure => omega
      case rel => exact ⟨i + 1, by omega, by omega, by go_num, ⟨by rw [hts]; exact hO2⟩, ⟨hB2⟩⟩
    · have hltz : ¬ (i : Int) < (ls.length : Int) := by omega
      obtain rfl : i = ls.length := by omega
      have h2 := HS.out
      rw [List.take_length] at h2
      have H2 := Aside0.mk h2
      clear h2
      go_wp2
      go_ret
      exact ⟨_, rfl, H2.out, HB.out⟩
end Go.Proofs.Ytmgmdnmfalepkaa.Build

namespace Go.Proofs.Ytmgmdnmfalepkaa.Far
open Go.RowKit Go.Proofs.YtmgmdnmfalepkaaW.PrintWords Go.Proofs.YtmgmdnmfalepkaaW.PrintMore Go.Proofs.Ytmgmdnmfalepkaa.Kit Go.Proofs.Ytmgmdnmfalepkaa.PKit Go.Proofs.Ytmgmdnmfalepkaa.Ty Go.Proofs.Ytmgmdnmfalepkaa.Build Go.Proofs.Ytmgmdnmfalepkaa.HelpBB
set_option linter.unusedVariables false
def far {α : Type} (d : Kd α) (w0 : World) : Kd α where
  sz := d.sz
  E := []
  K := fun _ x cs => d.K w0 x cs
  M := fun _ _ _ x cs => d.K w0 x cs
  K_len := fun h => d.K_len h
  K_one := fun h => d.K_one h
  K_below := fun _ h => h
  K_of_M := fun h => h
  M_mono := fun _ h => h
  M_bound := fun h => h
  M_move := fun _ h => h
  M_lower := fun _ h => h
theorem far_C {α : Type} {d : Kd α} {w0 W : World} {A : Option Addr} {n : Nat} {xs : List α} (h : (far d w0).C W A n xs) (hb : Below w0.heap.size w0 W) : d.C W A n xs :=
  ReadsRow.imp_ (size := d.sz) (R := d.K w0) h (Below.refl _ _) (fun p c h => d.K_below hb h)
theorem far_reads {α : Type} {d : Kd α} {w0 W : World} {A : Option Addr} {n : Nat} {xs : List α} (h : d.C w0 A n xs) (hb : Below w0.heap.size w0 W) : ReadsRow (d.K w0) d.sz W A n xs :=
  ReadsRow.imp_ h hb (fun _ _ h => h)
theorem zeros_size (n : Nat) : (Builtin.zeroCells #[(.slice none 0 0 : Value)] n).size = n := by
  simp [Builtin.zeroCells]
set_option maxRecDepth 100000 in
set_option maxHeartbeats 4000000 in
theorem grow_calls (n : Nat) (w0 w : World) (hB : Below w0.heap.size w0 w) (hn : n ≤ 1099511627776) :
    Calls Try.prog 150 #[.slice none 0 0, .int .i64 (n : Int)] w fun e w' => ∃ v, e = .returned v ∧ (far kB w0).R 33 w' w0.heap.size (fun _ => True) v [] ∧ Below w0.heap.size w0 w' ∧ Grew w w' ∧ (∀ k, v.ownBlock = some k → w.heap.size ≤ k) := by
  have HB := Aside0.mk hB
  clear hB
  have h1 : ¬ ((n : Int) < 0) := by omega
  by_cases h0 : n = 0
  · subst h0
    go_enter Try.func150, Try.ntmps150
    go_wp2
    go_ret
    exact ⟨_, rfl, Kd.R_nil _ _ _ _ _, HB.out, Below.refl _ _, fun k hk => by simp [Value.ownBlock] at hk⟩
  · have h4 : (n : Int) > 0 := by omega
    obtain ⟨i0, hi, hz0, hz1, hz2⟩ := info_parts infoBB
    have hold : (Builtin.firstCells i0.size 0 (.slice none 0 0)).run Try.prog w.drew = .ok (([] : List Value).toArray) w.drew := run_firstCells_none w.drew i0.size 0 0 0
    have hrz : ∀ ty, (Builtin.append_ #[41, 3] ty #[.slice none 0 0, .int .i64 (n : Int)]).run Try.prog w =
        .ok (.slice (some ⟨w.heap.size, 0, none⟩) n (grownCap w n 0 33)) (w.drew.alloc (.cells (([] : List Value).toArray ++ Builtin.zeroCells (.slice none 0 0 : Value).cells n ++ Builtin.zeroCells (.slice none 0 0 : Value).cells (grownCap w n 0 33 - n)) 33)) := fun ty => by
      have h := Lib.run_append_grow_zeros w 41 3 ty 33 i0 (.slice none 0 0) .i64 .i64 Try.underlying41 Try.underlying3 hi hz0 none 0 0 [] hold n (by omega) (by omega) (by omega) (by omega)
        (by rw [hz2]; omega)
        (by rw [Nat.zero_add]; exact growslice_fits (by omega) (by rw [hz2]; omega))
      rw [Nat.zero_add] at h
      exact h
    have hGn : n ≤ grownCap w n 0 33 := grownCap_ge w _ _ _
    have hG63 : grownCap w n 0 33 ≤ maxLen := grownCap_le_maxLen w n 0 _ (by unfold maxLen; omega)
    obtain ⟨G, hG⟩ : ∃ G, G = grownCap w n 0 33 := ⟨_, rfl⟩
    rw [← hG] at hrz hGn hG63
    clear hG hold
    have hG64 : G ≤ 9223372036854775807 := by unfold maxLen at hG63; omega
    have HRZ := Aside0.mk hrz
    have HGM := Aside0.mk hG63
    clear hrz hG63
    go_enter Try.func150, Try.ntmps150
    go_wp2_with (at_builtin; refine Lib.wpList_append_run _ rfl _ _ _ _ rfl _ _ rfl rfl _ _ (HRZ.out _) ?_)
    all_goals
      go_ret
      refine ⟨_, rfl, ?_, below_alloc HB.out.drew _, below_alloc (below_drew1 (Below.refl _ _)) _, fun k hk => by have e : w.heap.size = k := (by simpa [Value.ownBlock] using hk); omega⟩
      refine ⟨fun _ _ => trivial, [], ⟨rfl, .inr ⟨w.heap.size, G, _, rfl, HB.out.size, heap_alloc_new _ _, Nat.zero_le _, HGM.out, ?_, rfl⟩⟩, Reps.none _ _⟩
      show _ = G * 1
      simp [zeros_size]
      omega
def Two (w : World) (g : Nat) (a b : Value) : Prop := w.cell? ⟨g, 0, none⟩ = some a ∧ w.cell? ⟨g, 1, none⟩ = some b
set_option maxRecDepth 100000 in
set_option maxHeartbeats 4000000 in
theorem concat_calls (g : Nat) (A1 A2 : Option Addr) (c1 c2 : Nat) (x y : List (List Int)) (w0 w : World) (hB : Below w0.heap.size w0 w) (hr1 : Kd.C kB w0 A1 x.length x) (hr2 : Kd.C kB w0 A2 y.length y) (hT : Two w g (.slice A1 x.length c1) (.slice A2 y.length c2)) (hl : x.length + y.length ≤ 4194304) :
    Calls Try.prog 109 #[.slice (some ⟨g, 0, none⟩) 2 2] w fun e w' => ∃ v, e = .returned v ∧ (far kB w0).R 33 w' w0.heap.size (fun _ => True) v (x ++ y) ∧ Below w0.heap.size w0 w' := by
  have hg := grow_calls (x.length + y.length) w0 w hB (by omega)
  rw [Int.natCast_add] at hg
  have HB := Aside0.mk hB
  have HR1 := Aside0.mk hr1
  have HR2 := Aside0.mk hr2
  obtain ⟨hT0, hT1⟩ := hT
  have HT0 := Aside0.mk hT0
  have HT1 := Aside0.mk hT1
  clear hB hr1 hr2
  have q1 : ¬ ((x.length : Int) < 0) := by omega
  have q2 : ¬ ((x.length : Int) + (y.length : Int) < 0) := by omega
  go_enter Try.func109, Try.ntmps109
  go_wp2_with fail
  go_loopg [3, 11] 2 (fun gg s3 s11 wr => ∃ i : Nat, i ≤ 2 ∧ 2 - i ≤ gg ∧ s11 = .int .i64 (i : Int) ∧ s3 = .int .i64 ((if i = 0 then 0 else if i = 1 then x.length else x.length + y.length : Nat) : Int) ∧ w = wr)
  case atStart => exact ⟨0, by omega, by omega, rfl, rfl, rfl⟩
  case round =>
    obtain ⟨i, hi, hg_, rfl, rfl, rfl⟩ := hrel
    rcases (show i = 0 ∨ i = 1 ∨ i = 2 by omega) with rfl | rfl | rfl
    · have ht := HT0.out
      go_wp2
      go_roundg 1
      case measure => omega
      case rel => exact ⟨1, by omega, by omega, rfl, by simp, rfl⟩
    · have ht := HT1.out
      go_wp2
      go_roundg 0
      case measure => omega
      case rel => exact ⟨2, by omega, by omega, rfl, by simp, rfl⟩
    · go_wp2_with fail
      go_at_call 150
      refine hg.mono ?_
      rintro e w2 ⟨v2, rfl, hR2, hB2, hG2, hO2⟩
      obtain ⟨A3, c3, rfl⟩ := Kd.R_slice hR2
      have HR3 := Aside0.mk hR2
      have HB2 := Aside0.mk hB2
      have HO2 := Aside0.mk hO2
      have HGL := Aside0.mk (World.block_lt_of_cell? w _ HT0.out)
      have HH2 := Aside0.mk (show w2.heap[g]? = w.heap[g]? from hG2.block g HGL.out)
      have HZ2 := Aside0.mk hG2.size
      clear hR2 hB2 hO2 hG2 hg
      go_wp2_with fail
      go_loopg [6, 27] 2 (fun gg s6 s27 wr => ∃ i : Nat, i ≤ 2 ∧ 2 - i ≤ gg ∧ s27 = .int .i64 (i : Int) ∧ Aside0 ((far kB w0).R 33 wr w0.heap.size (fun _ => True) s6 (if i = 0 then [] else if i = 1 then x else x ++ y)) ∧ Aside0 (Below w0.heap.size w0 wr) ∧ Aside0 (∀ k, s6.ownBlock = some k → w.heap.size ≤ k) ∧ Aside0 (wr.heap[g]? = w.heap[g]?) ∧ Aside0 (w.heap.size ≤ wr.heap.size))
      case atStart => exact ⟨0, by omega, by omega, rfl, HR3, HB2, HO2, HH2, HZ2⟩
      case round =>
        obtain ⟨i, hi, hg_, rfl, HRi, HBi, HOi, HHi, HZi⟩ := hrel
        rcases (show i = 0 ∨ i = 1 ∨ i = 2 by omega) with rfl | rfl | rfl
        · have ht : wr.cell? ⟨g, 0, none⟩ = some (.slice A1 x.length c1) := (World.cell?_of_block HHi.out).trans HT0.out
          go_wp2_with (at_builtin; refine Kd.R_append_rows (far kB w0) (Rr := kB.K w0) (w0 := w0) w0.heap.size rfl (.tmp 31) (.tmp 32) 41 33 (.slice none 0 0) 24 rfl Try.underlying41 infoBB rfl Nat.zero_lt_one (by omega) u6 [] x A1 x.length c1 (fun _ => True) (fun _ => False) rfl rfl HRi.out (far_reads HR1.out HBi.out) (fun _ _ h => h) (fun _ h => h.elim) (fun _ _ => trivial) HBi.out HBi.out.size (by simp; omega) ?_; intro v1 w1 hR1 hB1 hg1 hat1)
          go_roundg 1
          case measure => omega
          case rel => exact ⟨1, by omega, by omega, rfl, ⟨hR1⟩, ⟨hB1⟩, ⟨fun k hk => by rcases hat1 with h | ⟨b, h, hb⟩; exact HOi.out k (h ▸ hk); (rw [h] at hk; injection hk with hk; have := HZi.out; omega)⟩, ⟨(hg1.block g (by have := HGL.out; have := HZi.out; omega) (fun e => by have h1 := HOi.out g e.symm; have h2 := HGL.out; have h3 : g < w.heap.size := h2; omega)).trans HHi.out⟩, ⟨by have h1 := HZi.out; have h2 := hg1.size; omega⟩⟩
        · have ht : wr.cell? ⟨g, 1, none⟩ = some (.slice A2 y.length c2) := (World.cell?_of_block HHi.out).trans HT1.out
          go_wp2_with (at_builtin; refine Kd.R_append_rows (far kB w0) (Rr := kB.K w0) (w0 := w0) w0.heap.size rfl (.tmp 31) (.tmp 32) 41 33 (.slice none 0 0) 24 rfl Try.underlying41 infoBB rfl Nat.zero_lt_one (by omega) u6 x y A2 y.length c2 (fun _ => True) (fun _ => False) rfl rfl HRi.out (far_reads HR2.out HBi.out) (fun _ _ h => h) (fun _ h => h.elim) (fun _ _ => trivial) HBi.out HBi.out.size (by omega) ?_; intro v1 w1 hR1 hB1 hg1 hat1)
          go_roundg 0
          case measure => omega
          case rel => exact ⟨2, by omega, by omega, rfl, ⟨hR1⟩, ⟨hB1⟩, ⟨fun k hk => by rcases hat1 with h | ⟨b, h, hb⟩; exact HOi.out k (h ▸ hk); (rw [h] at hk; injection hk with hk; have := HZi.out; omega)⟩, ⟨(hg1.block g (by have := HGL.out; have := HZi.out; omega) (fun e => by have h1 := HOi.out g e.symm; have h2 := HGL.out; have h3 : g < w.heap.size := h2; omega)).trans HHi.out⟩, ⟨by have h1 := HZi.out; have h2 := hg1.size; omega⟩⟩
        · have hr := HRi.out
          obtain ⟨A9, c9, rfl⟩ := Kd.R_slice hr
          go_wp2
          go_ret
          exact ⟨_, rfl, HRi.out, HBi.out⟩
end Go.Proofs.Ytmgmdnmfalepkaa.Far

namespace Go.Proofs.Ytmgmdnmfalepkaa.L
open Go.RowKit Go.Proofs.YtmgmdnmfalepkaaW.PrintWords Go.Proofs.YtmgmdnmfalepkaaW.PrintLast Go.Proofs.YtmgmdnmfalepkaaW.PrintMore
attribute [local go_sem] max2_int min2_int max_two min_two max_three min_three max_four min_four
set_option linter.unusedVariables false
set_option linter.unusedSimpArgs false
end Go.Proofs.Ytmgmdnmfalepkaa.L

namespace Go.Proofs.Ytmgmdnmfalepkaa.PEnc
open Go.RowKit Go.Proofs.YtmgmdnmfalepkaaW.PrintWords Go.Proofs.Ytmgmdnmfalepkaa.PKit Go.Proofs.Ytmgmdnmfalepkaa.POrd Go.Proofs.Ytmgmdnmfalepkaa.PTri Go.Proofs.Ytmgmdnmfalepkaa.PSeg Go.Proofs.Ytmgmdnmfalepkaa.L Go.Proofs.Ytmgmdnmfalepkaa.HelpBB
set_option linter.unusedVariables false
def varint (n : Nat) : List Int := if h : n < 128 then [(n : Int)] else ((n % 128 + 128 : Nat) : Int) :: varint (n / 128)
termination_by n
decreasing_by omega
theorem varint_lt {n : Nat} (h : n < 128) : varint n = [(n : Int)] := by rw [varint, dif_pos h]
theorem varint_ge {n : Nat} (h : ¬ n < 128) : varint n = ((n % 128 + 128 : Nat) : Int) :: varint (n / 128) := by
  conv => lhs; rw [varint]
  rw [dif_neg h]
theorem varint_len : ∀ (k n : Nat), n < 128 ^ (k + 1) → (varint n).length ≤ k + 1 := by
  intro k
  induction k with
  | zero =>
    intro n hn
    rw [varint_lt (by simpa using hn)]
    simp
  | succ k ih =>
    intro n hn
    by_cases h : n < 128
    · rw [varint_lt h]
      simp
    · rw [varint_ge h]
      have := ih (n / 128) (by rw [Nat.div_lt_iff_lt_mul (by decide)]; rw [Nat.pow_succ] at hn; exact hn)
      simp only [List.length_cons]
      omega
theorem varint_len10 {n : Nat} (h : n < 4611686018427387904) : (varint n).length ≤ 9 := varint_len 8 n (by omega)
def gap (K : List Int) (j : Nat) : Int := if j = 0 then K.getD 0 0 else K.getD j 0 - K.getD (j - 1) 0
def del (b : Int) (P : List Int) (i : Nat) : Int := if i = 0 then P.getD 0 0 - b else P.getD i 0 - P.getD (i - 1) 0
def flat (f : Nat → List Int) (n : Nat) : List Int := (List.range n).flatMap f
theorem flat_succ (f : Nat → List Int) (n : Nat) : flat f (n + 1) = flat f n ++ f n := by simp [flat, List.range_succ]
theorem flat_len {f : Nat → List Int} {m : Nat} : ∀ n, (∀ i, i < n → (f i).length ≤ m) → (flat f n).length ≤ n * m := by
  intro n
  induction n with
  | zero => intro _; simp [flat]
  | succ n ih =>
    intro h
    rw [flat_succ, List.length_append, Nat.add_mul]
    have h1 := ih (fun i hi => h i (by omega))
    have h2 := h n (by omega)
    omega
def line (ls : List (List Int)) (i : Nat) : List Int := varint (ls.getD i []).length ++ ls.getD i []
def dels (b : Int) (P : List Int) (n : Nat) : List Int := flat (fun i => varint (del b P i).toNat) n
def grp (b : Int) (K : List Int) (Ps : List (List Int)) (j : Nat) : List Int := varint (gap K j).toNat ++ varint (Ps.getD j []).length ++ dels b (Ps.getD j []) (Ps.getD j []).length
def head (b : Int) (ls : List (List Int)) : List Int := [84, 71] ++ varint b.toNat ++ varint ls.length
def body (s : SegT) : List Int := head s.1 s.2.1 ++ flat (line s.2.1) s.2.1.length ++ varint s.2.2.1.length ++ flat (grp s.1 s.2.2.1 s.2.2.2) s.2.2.1.length
structure EncOk (s : SegT) : Prop where
  b0 : 0 ≤ s.1
  b1 : s.1 ≤ 1000
  l1 : s.2.1.length ≤ 1000
  t1 : totalB s.2.1 ≤ 20000
  k1 : s.2.2.1.length ≤ 20000
  pk : s.2.2.2.length = s.2.2.1.length
  p1 : ∀ j, (s.2.2.2.getD j []).length ≤ 1000
  g1 : ∀ j, j < s.2.2.1.length → 0 ≤ gap s.2.2.1 j ∧ gap s.2.2.1 j ≤ 16777216
  d1 : ∀ j i, j < s.2.2.1.length → i < (s.2.2.2.getD j []).length → 0 ≤ del s.1 (s.2.2.2.getD j []) i ∧ del s.1 (s.2.2.2.getD j []) i ≤ 1000
  kb : ∀ j, -9223372036854775808 ≤ s.2.2.1.getD j 0 ∧ s.2.2.1.getD j 0 ≤ 9223372036854775807
end Go.Proofs.Ytmgmdnmfalepkaa.PEnc

namespace Go.Proofs.Ytmgmdnmfalepkaa.PEnc
open Go.RowKit Go.Proofs.YtmgmdnmfalepkaaW.PrintWords Go.Proofs.Ytmgmdnmfalepkaa.PKit Go.Proofs.Ytmgmdnmfalepkaa.POrd Go.Proofs.Ytmgmdnmfalepkaa.PTri Go.Proofs.Ytmgmdnmfalepkaa.PSeg Go.Proofs.Ytmgmdnmfalepkaa.L Go.Proofs.Ytmgmdnmfalepkaa.HelpBB
set_option linter.unusedVariables false
def mix (h : Nat) (c : Int) : Nat := ((h ^^^ c.toNat) * 16777619) % 4294967296
def sumFrom (z : Nat) (l : List Int) : Nat := l.foldl mix z
def sum (l : List Int) : Nat := sumFrom 2166136261 l
def four (h : Nat) : List Int := [((h / 16777216 : Nat) : Int), ((h / 65536 % 256 : Nat) : Int), ((h / 256 % 256 : Nat) : Int), ((h % 256 : Nat) : Int)]
def code (s : SegT) : List Int := body s ++ four (sum (body s))
end Go.Proofs.Ytmgmdnmfalepkaa.PEnc
