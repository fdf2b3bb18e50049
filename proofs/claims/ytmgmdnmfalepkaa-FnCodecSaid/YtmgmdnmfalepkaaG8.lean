/- Parts of the proof (see the row's own text): Lseg, PSeg. -/
import Derived.Test.YtmgmdnmfalepkaaG00
import Derived.Test.YtmgmdnmfalepkaaG4
import Derived.Test.YtmgmdnmfalepkaaG6
import Derived.Test.YtmgmdnmfalepkaaG7
namespace Go.Proofs.Ytmgmdnmfalepkaa.L
open Go.RowKit Go.Proofs.YtmgmdnmfalepkaaW.PrintWords Go.Proofs.YtmgmdnmfalepkaaW.PrintLast Go.Proofs.YtmgmdnmfalepkaaW.PrintMore
attribute [local go_sem] max2_int min2_int max_two min_two max_three min_three max_four min_four
set_option linter.unusedVariables false
set_option linter.unusedSimpArgs false
def spec_BuildSegment.f (k : Nat) (a0 : Int) (l1 : List (List Int)) : Option (Int × (List (List Int)) × List Int × (List (List Int)) × Int) := (spec_l4fits.f k a0 l1).bind fun t313 => (if t313 = true then ((spec_l4build.f k a0 l1).bind fun bt314 => (some (bt314.1, bt314.2.1, bt314.2.2.1, bt314.2.2.2, 0))) else (some (0, ([] : List (List Int)), ([] : List Int), ([] : List (List Int)), 4)))
theorem spec_BuildSegment.mono : ∀ a0 a1 k, LeO (spec_BuildSegment.f k a0 a1) (spec_BuildSegment.f (k + 1) a0 a1) := by
 intro a0 a1 k
 unfold spec_BuildSegment.f
 repeat' first
   | (with_reducible exact spec_l4build.mono _ _ _)
   | (with_reducible exact spec_l4fits.mono _ _ _)
   | (with_reducible exact LeO.refl _)
   | (with_reducible exact LeO.none _)
   | (with_reducible refine LeO.ite ?_ ?_)
   | (with_reducible refine LeO.bind ?_ (fun _ => ?_))
   | exact spec_l4build.mono _ _ _
   | exact spec_l4fits.mono _ _ _
   | exact LeO.none _
   | refine LeO.ite ?_ ?_
   | refine LeO.bind ?_ (fun _ => ?_)
end Go.Proofs.Ytmgmdnmfalepkaa.L

namespace Go.Proofs.Ytmgmdnmfalepkaa.PSeg
open Go.RowKit Go.Proofs.YtmgmdnmfalepkaaW.PrintWords Go.Proofs.Ytmgmdnmfalepkaa.PKit Go.Proofs.Ytmgmdnmfalepkaa.POrd Go.Proofs.Ytmgmdnmfalepkaa.PTri Go.Proofs.Ytmgmdnmfalepkaa.L Go.Proofs.Ytmgmdnmfalepkaa.HelpBB
set_option linter.unusedVariables false
abbrev SegT := Int × List (List Int) × List Int × List (List Int)
def plain (ls : List (List Int)) : Bool := ls.all fun l => decide (10 ∉ l)
def fits (b : Int) (ls : List (List Int)) : Bool := decide (0 ≤ b) && decide (b ≤ 1000) && decide (1 ≤ ls.length) && decide (b + (ls.length : Int) ≤ 1000) && plain ls && decide (totalB ls ≤ 20000)
def keys (ls : List (List Int)) : List Int := ord (ls.flatMap tris)
def hasT (ls : List (List Int)) (k : Int) (i : Nat) : Bool := decide (k ∈ tris (ls.getD i []))
def post (b : Int) (ls : List (List Int)) (n : Nat) (k : Int) : List Int := ((List.range n).filter (hasT ls k)).map fun (i : Nat) => b + (i : Int)
theorem post_succ (b : Int) (ls : List (List Int)) (n : Nat) (k : Int) : post b ls (n + 1) k = post b ls n k ++ (if hasT ls k n = true then [b + (n : Int)] else []) := by
 unfold post
 rw [List.range_succ, List.filter_append, List.map_append]
 congr 1
 by_cases h : hasT ls k n = true
 ·simp [h]
 ·simp [h]
theorem post_len (b : Int) (ls : List (List Int)) (n : Nat) (k : Int) : (post b ls n k).length ≤ n := by
 unfold post
 rw [List.length_map]
 refine Nat.le_trans (List.length_filter_le _ _) ?_
 simp
def seg (b : Int) (ls : List (List Int)) : SegT := (b, ls, keys ls, (keys ls).map (post b ls ls.length))
def build (b : Int) (ls : List (List Int)) : SegT × Int := if fits b ls = true then (seg b ls, 0) else ((0, [], [], []), 4)
theorem getD_get (l : List Int) (j : Nat) (h : j < l.length) : l.getD j 0 = l[j] := by simp [List.getD, List.getElem?_eq_getElem h]
abbrev Bytes (ls : List (List Int)) : Prop := ∀ l ∈ ls, ∀ x ∈ l, 0 ≤ x ∧ x ≤ 255
theorem getD_bytes {ls : List (List Int)} (h : Bytes ls) (i : Nat) : ∀ x ∈ ls.getD i [], 0 ≤ x ∧ x ≤ 255 := by
 by_cases hi : i < ls.length
 ·have e : ls.getD i [] = ls[i] := by simp [List.getD, List.getElem?_eq_getElem hi]
  rw [e]
  exact h _ (List.getElem_mem hi)
 ·have e : ls.getD i [] = [] := by simp [List.getD, List.getElem?_eq_none (Nat.le_of_not_lt hi)]
  rw [e]
  intro x hx
  cases hx
theorem getD_len (ls : List (List Int)) (i : Nat) : (ls.getD i []).length ≤ totalB ls := by
 by_cases hi : i < ls.length
 ·have e : ls.getD i [] = ls[i] := by simp [List.getD, List.getElem?_eq_getElem hi]
  rw [e]
  exact total_mem (List.getElem_mem hi)
 ·have e : ls.getD i [] = [] := by simp [List.getD, List.getElem?_eq_none (Nat.le_of_not_lt hi)]
  rw [e]
  exact Nat.zero_le _
theorem rdB (ls : List (List Int)) (i : Nat) : rd_L1 ls (i : Int) = ls.getD i [] := rfl
theorem total_drop (ls : List (List Int)) (i : Nat) (h : i < ls.length) : totalB (ls.take (i + 1)) = totalB (ls.take i) + (ls.getD i []).length := by
 rw [take_snoc ls i h, total_snoc]
theorem bytes_ev (ls : List (List Int)) (hs : smallBB ls) : Ev (fun k => spec_l4bytes.f k ls) (totalB ls : Int) := by
 have hs' : ls.length + totalB ls ≤ 1048576 := hs
 have key : ∀ (d i : Nat), i + d = ls.length → Ev (fun k => spec_l4bytes.l0 k ls (totalB (ls.take i) : Int) (i : Int)) (totalB ls : Int) := by
  intro d
  induction d with
  | zero =>
   intro i hd
   have e : ls.take i = ls := List.take_of_length_le zq3
   refine Ev.step (f := fun _ => some (totalB ls : Int)) (fun k => ?_) (Ev.now _)
   simp only [spec_l4bytes.l0]
   rw [if_neg zq3, e]
  | succ d ih =>
   intro i hd
   have ht := total_take ls (i + 1)
   rw [total_drop ls i zq3] at ht
   refine Ev.step (fun k => ?_) (ih (i + 1) zq3)
   simp only [spec_l4bytes.l0]
   rw [if_pos zq3, if_pos zq3, rdB, wrap_in (x := (totalB (ls.take i) : Int) + ((ls.getD i []).length : Int)) zq3, wrap_succ i zq3, total_drop ls i zq3]
   congr 1
 have h := key ls.length 0 zq3
 exact Ev.congr (fun k => by simp only [spec_l4bytes.f]; rfl) h
theorem plain_ev (ls : List (List Int)) (hs : smallBB ls) : Ev (fun k => spec_l4plain.f k ls) (plain ls) := by
 have hs' : ls.length + totalB ls ≤ 1048576 := hs
 have key : ∀ (d i : Nat), i + d = ls.length → Ev (fun k => spec_l4plain.l0 k ls (i : Int)) (plain (ls.drop i)) := by
  intro d
  induction d with
  | zero =>
   intro i hd
   have e : ls.drop i = [] := List.drop_of_length_le zq3
   refine Ev.step (f := fun _ => some true) (fun k => ?_) (by rw [e]; exact Ev.now _)
   simp only [spec_l4plain.l0]
   rw [if_neg zq3]
  | succ d ih =>
   intro i hd
   have hi : i < ls.length := by omega
   have hd1 : ls.drop i = ls.getD i [] :: ls.drop (i + 1) := by
    rw [List.drop_eq_getElem_cons hi]
    simp [List.getD, List.getElem?_eq_getElem hi]
   have hlen := getD_len ls i
   have inner : ∀ (d2 j : Nat), j + d2 = (ls.getD i []).length → (∀ x ∈ (ls.getD i []).take j, x ≠ 10) → Ev (fun k => spec_l4plain.l1 k ls (i : Int) (j : Int)) (plain (ls.drop i)) := by
    intro d2
    induction d2 with
    | zero =>
     intro j hj hn
     have hp : plain (ls.drop i) = plain (ls.drop (i + 1)) := by
      rw [hd1]
      have : decide (10 ∉ ls.getD i []) = true := decide_eq_true (fun hm => hn 10 (by rw [List.take_of_length_le zq3]; exact hm) rfl)
      simp only [plain, List.all_cons, this, Bool.true_and]
     rw [hp]
     refine Ev.step (fun k => ?_) (ih (i + 1) zq3)
     simp only [spec_l4plain.l1]
     rw [if_pos zq3, if_pos zq3, rdB, if_neg zq3, wrap_succ i zq3]
    | succ d2 ih2 =>
     intro j hj hn
     by_cases hx : (ls.getD i []).getD j 0 = 10
     ·have hp : plain (ls.drop i) = false := by
       rw [hd1]
       have hm : 10 ∈ ls.getD i [] := by
        have e : (ls.getD i []).getD j 0 = (ls.getD i [])[j]'zq3 := getD_get _ j zq3
        rw [← hx, e]
        exact List.getElem_mem _
       have : decide (10 ∉ ls.getD i []) = false := decide_eq_false (fun h => h hm)
       simp only [plain, List.all_cons, this, Bool.false_and]
      rw [hp]
      refine Ev.step (f := fun _ => some false) (fun k => ?_) (Ev.now _)
      simp only [spec_l4plain.l1]
      rw [if_pos zq3, if_pos zq3, rdB, if_pos zq3, if_pos zq3, rd_at, if_pos hx]
     ·refine Ev.step (fun k => ?_) (ih2 (j + 1) zq3 (fun x hxm => ?_))
      ·simp only [spec_l4plain.l1]
       rw [if_pos zq3, if_pos zq3, rdB, if_pos zq3, if_pos zq3, rd_at, if_neg hx, wrap_succ j zq3]
      ·rw [List.take_succ_eq_append_getElem zq3] at hxm
       rcases List.mem_append.1 hxm with h | h
       ·exact hn x h
       ·have e : (ls.getD i []).getD j 0 = (ls.getD i [])[j]'zq3 := getD_get _ j zq3
        rw [List.mem_singleton.1 h, ← e]
        exact hx
   refine Ev.step (fun k => ?_) (inner (ls.getD i []).length 0 zq3 zq14)
   simp only [spec_l4plain.l0]
   rw [if_pos zq3]
   rfl
 have h := key ls.length 0 zq3
 rw [List.drop_zero] at h
 exact Ev.congr (fun k => by simp only [spec_l4plain.f]; rfl) h
theorem fits_ev (b : Int) (ls : List (List Int)) (hs : smallBB ls) : Ev (fun k => spec_l4fits.f k b ls) (fits b ls) := by
 have hs' : ls.length + totalB ls ≤ 1048576 := hs
 have hj : ∀ q, q = true → Ev (fun k => spec_l4fits.j0 k b ls q) false := fun q hq => by
  refine Ev.step (f := fun _ => some false) (fun k => ?_) (Ev.now _)
  simp only [spec_l4fits.j0]
  rw [if_pos hq]
 by_cases h1 : b < 0
 ·have e : fits b ls = false := by unfold fits; rw [decide_eq_false (show ¬ 0 ≤ b by omega)]; rfl
  rw [e]
  exact Ev.congr (fun k => by simp only [spec_l4fits.f]; rw [if_pos h1]) (hj true rfl)
 by_cases h2 : b > 1000
 ·have e : fits b ls = false := by unfold fits; rw [decide_eq_false (show ¬ b ≤ 1000 by omega)]; simp
  rw [e]
  exact Ev.congr (fun k => by simp only [spec_l4fits.f]; rw [if_neg h1, if_pos h2]) (hj true rfl)
 by_cases h3 : ls.length < 1
 ·have e : fits b ls = false := by unfold fits; rw [decide_eq_false (show ¬ 1 ≤ ls.length by omega)]; simp
  rw [e]
  exact Ev.congr (fun k => by simp only [spec_l4fits.f]; rw [if_neg h1, if_neg h2]) (hj _ (decide_eq_true zq3))
 have h3' : decide ((ls.length : Int) < 1) = false := decide_eq_false zq3
 refine Ev.congr (fun k => by simp only [spec_l4fits.f]; rw [if_neg h1, if_neg h2, h3']) ?_
 by_cases h4 : b + (ls.length : Int) > 1000
 ·have e : fits b ls = false := by unfold fits; rw [decide_eq_false (show ¬ b + (ls.length : Int) ≤ 1000 by omega)]; simp
  rw [e]
  refine Ev.step (f := fun _ => some false) (fun k => ?_) (Ev.now _)
  simp only [spec_l4fits.j0]
  rw [if_neg zq14, wrap_in zq3, if_pos h4]
 have e : fits b ls = (plain ls && decide (totalB ls ≤ 20000)) := by
  unfold fits
  rw [decide_eq_true (show 0 ≤ b by omega), decide_eq_true (show b ≤ 1000 by omega), decide_eq_true (show 1 ≤ ls.length by omega), decide_eq_true (show b + (ls.length : Int) ≤ 1000 by omega)]
  simp
 rw [e]
 refine Ev.step (f := fun k => (spec_l4plain.f k ls).bind fun t232 => (if t232 = true then ((spec_l4bytes.f k ls).bind fun t233 => (some (decide (t233 ≤ 20000)))) else (some false))) (fun k => ?_) (Ev.bind (plain_ev ls hs) ?_)
 ·simp only [spec_l4fits.j0]
  rw [if_neg zq14, wrap_in zq3, if_neg h4]
 ·cases hp : plain ls with
  | false =>
   show Ev _ false
   exact Ev.congr (fun k => by rw [if_neg zq14]) (Ev.now _)
  | true =>
   refine Ev.congr (fun k => by rw [if_pos rfl]) (Ev.bind (bytes_ev ls hs) ?_)
   have e2 : (true && decide (totalB ls ≤ 20000)) = decide ((totalB ls : Int) ≤ 20000) := by
    rw [Bool.true_and]
    by_cases h : totalB ls ≤ 20000
    ·rw [decide_eq_true h, decide_eq_true zq3]
    ·rw [decide_eq_false h, decide_eq_false zq3]
   rw [e2]
   exact Ev.now _
theorem copy_ev (ls : List (List Int)) (hs : smallBB ls) : Ev (fun k => spec_l4copy.f k ls) ls := by
 have hs' : ls.length + totalB ls ≤ 1048576 := hs
 have key : ∀ (d i : Nat), i + d = ls.length → Ev (fun k => spec_l4copy.l0 k ls (ls.take i) (i : Int)) ls := by
  intro d
  induction d with
  | zero =>
   intro i hd
   have e : ls.take i = ls := List.take_of_length_le zq3
   rw [e]
   refine Ev.step (f := fun _ => some ls) (fun k => ?_) (Ev.now _)
   simp only [spec_l4copy.l0]
   rw [if_neg zq3]
  | succ d ih =>
   intro i hd
   have hlen := getD_len ls i
   refine Ev.step (fun k => ?_) (ih (i + 1) zq3)
   simp only [spec_l4copy.l0]
   rw [if_pos zq3, if_pos zq3, rdB, if_pos (by rw [List.length_nil]; omega), if_pos zq55, List.nil_append, wrap_succ i zq3, take_snoc ls i zq3]
 have h := key ls.length 0 zq3
 exact Ev.congr (fun k => by simp only [spec_l4copy.f]; rfl) h
theorem inList_ev (l : List Int) (v : Int) (hl : l.length ≤ 1099511627776) : Ev (fun k => spec_l2inList.f k l v) (decide (v ∈ l)) := by
 have key : ∀ (d i : Nat), i + d = l.length → (∀ x ∈ l.take i, x ≠ v) → Ev (fun k => spec_l2inList.l0 k l v (i : Int)) (decide (v ∈ l)) := by
  intro d
  induction d with
  | zero =>
   intro i hd hn
   rw [List.take_of_length_le zq3] at hn
   rw [decide_eq_false (fun h => hn v h rfl)]
   refine Ev.step (f := fun _ => some false) (fun k => ?_) (Ev.now _)
   simp only [spec_l2inList.l0]
   rw [if_neg zq3]
  | succ d ih =>
   intro i hd hn
   have e : l.getD i 0 = l[i]'zq3 := by simp [List.getD, List.getElem?_eq_getElem (show i < l.length by omega)]
   by_cases hx : l.getD i 0 = v
   ·rw [decide_eq_true (by rw [← hx, e]; exact List.getElem_mem _)]
    refine Ev.step (f := fun _ => some true) (fun k => ?_) (Ev.now _)
    simp only [spec_l2inList.l0]
    rw [if_pos zq3, if_pos zq3, rd_at, if_pos hx]
   ·refine Ev.step (fun k => ?_) (ih (i + 1) zq3 (fun x hxm => ?_))
    ·simp only [spec_l2inList.l0]
     rw [if_pos zq3, if_pos zq3, rd_at, if_neg hx, wrap_succ i zq3]
    ·rw [List.take_succ_eq_append_getElem zq3] at hxm
     rcases List.mem_append.1 hxm with h | h
     ·exact hn x h
     ·rw [List.mem_singleton.1 h, ← e]
      exact hx
 have h := key l.length 0 zq3 zq14
 exact Ev.congr (fun k => by simp only [spec_l2inList.f]; rfl) h
structure UInv (x y out : List Int) (i j : Nat) : Prop where
 asc : Asc out
 mem : ∀ v, v ∈ out ↔ v ∈ x.take i ∨ v ∈ y.take j
 hx : ∀ v ∈ out, ∀ k (h : k < x.length), i ≤ k → v < x[k]
 hy : ∀ v ∈ out, ∀ k (h : k < y.length), j ≤ k → v < y[k]
theorem snoc_asc {out : List Int} {v : Int} (h : Asc out) (hv : ∀ u ∈ out, u < v) : Asc (out ++ [v]) :=
 List.pairwise_append.2 ⟨h, zq14, fun a ha b hb => by rw [List.mem_singleton.1 hb]; exact hv a ha⟩
theorem UInv.next {x y out : List Int} {i j i' j' : Nat} {v : Int} (h : UInv x y out i j) (hi' : i ≤ i' ∧ i' ≤ i + 1) (hj' : j ≤ j' ∧ j' ≤ j + 1)
  (hm : ∀ u, (u ∈ x.take i' ∨ u ∈ y.take j') ↔ (u ∈ x.take i ∨ u ∈ y.take j) ∨ u = v) (hlt : ∀ u ∈ out, u < v) (hx : ∀ k (h : k < x.length), i' ≤ k → v < x[k]) (hy : ∀ k (h : k < y.length), j' ≤ k → v < y[k]) : UInv x y (out ++ [v]) i' j' where
 asc := snoc_asc h.asc hlt
 mem := fun u => by rw [List.mem_append, List.mem_singleton, h.mem u, hm u]
 hx := fun u hu k hk hik => by
  rcases List.mem_append.1 hu with hu | hu
  ·exact h.hx u hu k hk zq3
  ·rw [List.mem_singleton.1 hu]
   exact hx k hk hik
 hy := fun u hu k hk hjk => by
  rcases List.mem_append.1 hu with hu | hu
  ·exact h.hy u hu k hk zq3
  ·rw [List.mem_singleton.1 hu]
   exact hy k hk hjk
theorem mem_take1 (x : List Int) (i : Nat) (h : i < x.length) (v : Int) : v ∈ x.take (i + 1) ↔ v ∈ x.take i ∨ v = x[i] := by
 rw [List.take_succ_eq_append_getElem h, List.mem_append, List.mem_singleton]
theorem or_two (a b c : Prop) : ((a ∨ c) ∨ (b ∨ c)) ↔ ((a ∨ b) ∨ c) := by
 constructor
 ·rintro ((h | h) | (h | h))
  ·exact .inl (.inl h)
  ·exact .inr h
  ·exact .inl (.inr h)
  ·exact .inr h
 ·rintro ((h | h) | h)
  ·exact .inl (.inl h)
  ·exact .inr (.inl h)
  ·exact .inl (.inr h)
theorem union_ev (x y : List Int) (hx : Asc x) (hy : Asc y) (hl : x.length + y.length < 17592186044416) : Ev (fun k => spec_l4union.f k x y) (ord (x ++ y)) := by
 have key : ∀ (d i j : Nat) (out : List Int), (x.length - i) + (y.length - j) = d → i ≤ x.length → j ≤ y.length → out.length ≤ i + j → UInv x y out i j →
   Ev (fun k => spec_l4union.l0 k x y out (i : Int) (j : Int)) (ord (x ++ y)) := by
  intro d
  induction d using Nat.strongRecOn with
  | _ d ih =>
   intro i j out hd hi hj ho inv
   by_cases h1 : i < x.length
   ·have ex : rd x (i : Int) = x[i] := rd_get x i h1
    by_cases h2 : j < y.length
    ·have ey : rd y (j : Int) = y[j] := rd_get y j h2
     rcases Int.lt_trichotomy x[i] y[j] with hlt | heq | hgt
     ·have inv' : UInv x y (out ++ [x[i]]) (i + 1) j := inv.next ⟨zq3, zq3⟩ ⟨zq3, zq3⟩ (fun u => by rw [mem_take1 x i h1]; constructor <;> (rintro ((h | h) | h) <;> simp [h])) (fun u hu => inv.hx u hu i h1 (Nat.le_refl _)) (fun k hk hik => asc_get hx zq3 hk) (fun k hk hjk => by
       by_cases e : k = j
       ·subst e; exact hlt
       ·exact Int.lt_trans hlt (asc_get hy zq3 hk))
      have hr := ih _ zq3 (i + 1) j (out ++ [x[i]]) rfl zq3 hj zq42 inv'
      refine Ev.step (f := fun k => spec_l4union.j1 k x y out i j true) (fun k => ?_) (Ev.step (f := fun k => spec_l4union.j2 k x y out i j true) (fun k => ?_) (Ev.step (f := fun k => spec_l4union.j3 k x y out i j x[i]) (fun k => ?_) (Ev.step (f := fun k => spec_l4union.j4 k x y out i j x[i] true) (fun k => ?_) (Ev.step (fun k => ?_) hr))))
      ·simp only [spec_l4union.l0]; rw [if_pos zq3]
      ·simp only [spec_l4union.j1]; rw [if_pos trivial, if_neg zq3, if_pos zq3, if_pos zq3, if_pos zq3, if_pos zq3, ex, ey, decide_eq_true zq3]
      ·simp only [spec_l4union.j2]; rw [if_pos trivial, if_pos zq3, if_pos zq3, ex]
      ·simp only [spec_l4union.j3]; rw [if_pos zq3, if_pos zq3, ex, beq_self_eq_true]
      ·simp only [spec_l4union.j4]; rw [if_pos trivial, if_pos zq3, if_pos zq3, ey, if_neg zq3, if_pos zq3, wrap_succ i zq3]
     ·have inv' : UInv x y (out ++ [x[i]]) (i + 1) (j + 1) := inv.next ⟨zq3, zq3⟩ ⟨zq3, zq3⟩ (fun u => by rw [mem_take1 x i h1, mem_take1 y j h2, ← heq]; exact or_two _ _ _) (fun u hu => inv.hx u hu i h1 (Nat.le_refl _)) (fun k hk hik => asc_get hx zq3 hk) (fun k hk hjk => by rw [heq]; exact asc_get hy zq3 hk)
      have hr := ih _ zq3 (i + 1) (j + 1) (out ++ [x[i]]) rfl zq3 zq3 zq42 inv'
      refine Ev.step (f := fun k => spec_l4union.j1 k x y out i j true) (fun k => ?_) (Ev.step (f := fun k => spec_l4union.j2 k x y out i j true) (fun k => ?_) (Ev.step (f := fun k => spec_l4union.j3 k x y out i j x[i]) (fun k => ?_) (Ev.step (f := fun k => spec_l4union.j4 k x y out i j x[i] true) (fun k => ?_) (Ev.step (fun k => ?_) hr))))
      ·simp only [spec_l4union.l0]; rw [if_pos zq3]
      ·simp only [spec_l4union.j1]; rw [if_pos trivial, if_neg zq3, if_pos zq3, if_pos zq3, if_pos zq3, if_pos zq3, ex, ey, decide_eq_true zq3]
      ·simp only [spec_l4union.j2]; rw [if_pos trivial, if_pos zq3, if_pos zq3, ex]
      ·simp only [spec_l4union.j3]; rw [if_pos zq3, if_pos zq3, ex, beq_self_eq_true]
      ·simp only [spec_l4union.j4]; rw [if_pos trivial, if_pos zq3, if_pos zq3, ey, if_pos zq3, if_pos zq3, wrap_succ i zq3, wrap_succ j zq3]
     ·have inv' : UInv x y (out ++ [y[j]]) i (j + 1) := inv.next ⟨zq3, zq3⟩ ⟨zq3, zq3⟩ (fun u => by rw [mem_take1 y j h2, or_assoc]) (fun u hu => inv.hy u hu j h2 (Nat.le_refl _)) (fun k hk hik => by
       by_cases e : k = i
       ·subst e; exact hgt
       ·exact Int.lt_trans hgt (asc_get hx zq3 hk)) (fun k hk hjk => asc_get hy zq3 hk)
      have hr := ih _ zq3 i (j + 1) (out ++ [y[j]]) rfl hi zq3 zq42 inv'
      refine Ev.step (f := fun k => spec_l4union.j1 k x y out i j true) (fun k => ?_) (Ev.step (f := fun k => spec_l4union.j2 k x y out i j false) (fun k => ?_) (Ev.step (f := fun k => spec_l4union.j3 k x y out i j y[j]) (fun k => ?_) (Ev.step (f := fun k => spec_l4union.j4 k x y out i j y[j] false) (fun k => ?_) (Ev.step (fun k => ?_) hr))))
      ·simp only [spec_l4union.l0]; rw [if_pos zq3]
      ·simp only [spec_l4union.j1]; rw [if_pos trivial, if_neg zq3, if_pos zq3, if_pos zq3, if_pos zq3, if_pos zq3, ex, ey, decide_eq_false zq3]
      ·simp only [spec_l4union.j2]; rw [if_neg zq14, if_pos zq3, if_pos zq3, ey]
      ·simp only [spec_l4union.j3]; rw [if_pos zq3, if_pos zq3, ex, beq_eq_false_iff_ne.2 zq3]
      ·simp only [spec_l4union.j4]; rw [if_neg zq14, if_pos zq3, if_pos zq3, ey, if_pos rfl, if_pos zq3, wrap_succ j zq3]
    ·have inv' : UInv x y (out ++ [x[i]]) (i + 1) j := inv.next ⟨zq3, zq3⟩ ⟨zq3, zq3⟩ (fun u => by rw [mem_take1 x i h1]; constructor <;> (rintro ((h | h) | h) <;> simp [h])) (fun u hu => inv.hx u hu i h1 (Nat.le_refl _)) (fun k hk hik => asc_get hx zq3 hk) (fun k hk hjk => absurd hk zq3)
     have hr := ih _ zq3 (i + 1) j (out ++ [x[i]]) rfl zq3 hj zq42 inv'
     refine Ev.step (f := fun k => spec_l4union.j1 k x y out i j true) (fun k => ?_) (Ev.step (f := fun k => spec_l4union.j2 k x y out i j true) (fun k => ?_) (Ev.step (f := fun k => spec_l4union.j3 k x y out i j x[i]) (fun k => ?_) (Ev.step (f := fun k => spec_l4union.j4 k x y out i j x[i] true) (fun k => ?_) (Ev.step (fun k => ?_) hr))))
     ·simp only [spec_l4union.l0]; rw [if_pos zq3]
     ·simp only [spec_l4union.j1]; rw [if_pos trivial, if_pos zq3]
     ·simp only [spec_l4union.j2]; rw [if_pos trivial, if_pos zq3, if_pos zq3, ex]
     ·simp only [spec_l4union.j3]; rw [if_pos zq3, if_pos zq3, ex, beq_self_eq_true]
     ·simp only [spec_l4union.j4]; rw [if_pos trivial, if_neg zq3, if_pos zq3, wrap_succ i zq3]
   ·by_cases h2 : j < y.length
    ·have ey : rd y (j : Int) = y[j] := rd_get y j h2
     have inv' : UInv x y (out ++ [y[j]]) i (j + 1) := inv.next ⟨zq3, zq3⟩ ⟨zq3, zq3⟩ (fun u => by rw [mem_take1 y j h2, or_assoc]) (fun u hu => inv.hy u hu j h2 (Nat.le_refl _)) (fun k hk hik => absurd hk zq3) (fun k hk hjk => asc_get hy zq3 hk)
     have hr := ih _ zq3 i (j + 1) (out ++ [y[j]]) rfl hi zq3 zq42 inv'
     refine Ev.step (f := fun k => spec_l4union.j1 k x y out i j true) (fun k => ?_) (Ev.step (f := fun k => spec_l4union.j2 k x y out i j false) (fun k => ?_) (Ev.step (f := fun k => spec_l4union.j3 k x y out i j y[j]) (fun k => ?_) (Ev.step (f := fun k => spec_l4union.j4 k x y out i j y[j] false) (fun k => ?_) (Ev.step (fun k => ?_) hr))))
     ·simp only [spec_l4union.l0]; rw [if_neg zq3, decide_eq_true zq3]
     ·simp only [spec_l4union.j1]; rw [if_pos trivial, if_neg zq3, if_neg zq3]
     ·simp only [spec_l4union.j2]; rw [if_neg zq14, if_pos zq3, if_pos zq3, ey]
     ·simp only [spec_l4union.j3]; rw [if_neg zq3]
     ·simp only [spec_l4union.j4]; rw [if_neg zq14, if_pos zq3, if_pos zq3, ey, if_pos rfl, if_pos zq3, wrap_succ j zq3]
    ·have e : out = ord (x ++ y) := ord_unique inv.asc (fun v => by
      rw [inv.mem v, List.take_of_length_le zq3, List.take_of_length_le zq3, List.mem_append])
     rw [← e]
     refine Ev.step (f := fun k => spec_l4union.j1 k x y out i j false) (fun k => ?_) (Ev.step (f := fun _ => some out) (fun k => ?_) (Ev.now _))
     ·simp only [spec_l4union.l0]; rw [if_neg zq3, decide_eq_false zq3]
     ·simp only [spec_l4union.j1]; rw [if_neg zq14]
 have h := key _ 0 0 [] rfl (Nat.zero_le _) (Nat.zero_le _) zq14 ⟨zq14, zq14, zq14, zq14⟩
 exact Ev.congr (fun k => by simp only [spec_l4union.f]; rfl) h
theorem flat_len (ls : List (List Int)) : (ls.flatMap tris).length ≤ totalB ls := by
 induction ls with
 | nil => simp [totalB]
 | cons l r ih =>
  rw [List.flatMap_cons, List.length_append, tris_length]
  simp only [totalB]
  omega
theorem keys_ev : ∀ (n : Nat) (ls : List (List Int)), ls.length ≤ n → Bytes ls → smallBB ls → Ev (fun k => spec_l4keys.f k ls) (keys ls) := by
 intro n
 induction n with
 | zero =>
  intro ls hn _ _
  obtain rfl := List.length_eq_zero_iff.1 (Nat.le_zero.1 hn)
  exact Ev.step (f := fun _ => some []) (fun k => by simp [spec_l4keys.f]) (Ev.now _)
 | succ n ih =>
  intro ls hn hb hs
  have hs' : ls.length + totalB ls ≤ 1048576 := hs
  by_cases h0 : ls.length = 0
  ·obtain rfl := List.length_eq_zero_iff.1 h0
   exact Ev.step (f := fun _ => some []) (fun k => by simp [spec_l4keys.f]) (Ev.now _)
  by_cases h1 : ls.length = 1
  ·obtain ⟨l, rfl⟩ := List.length_eq_one_iff.1 h1
   have e : keys [l] = ord (tris l) := by simp [keys]
   rw [e]
   refine Ev.step (f := fun k => (spec_Trigrams.f k l).bind fun t => some t) (fun k => ?_) (Ev.bind (spec_ev l (hb l zq14) (by simp [totalB] at hs'; omega)) (Ev.now _))
   simp only [spec_l4keys.f]
   rw [if_neg zq14, if_pos zq14, if_pos zq14]
   rfl
  have hw : wrap64 ((ls.length : Int) / 2) = ((ls.length / 2 : Nat) : Int) := by rw [wrap_in zq3]; omega
  have hm1 : (ls.take (ls.length / 2)).length = ls.length / 2 := by rw [List.length_take]; omega
  have hm2 : (ls.drop (ls.length / 2)).length = ls.length - ls.length / 2 := List.length_drop ..
  have htot : totalB (ls.take (ls.length / 2)) + totalB (ls.drop (ls.length / 2)) = totalB ls := by rw [← total_append, List.take_append_drop]
  have e1 := ih (ls.take (ls.length / 2)) zq3 (fun l hl => hb l (List.mem_of_mem_take hl)) (by show _ + _ ≤ _; omega)
  have e2 := ih (ls.drop (ls.length / 2)) zq3 (fun l hl => hb l (List.mem_of_mem_drop hl)) (by show _ + _ ≤ _; omega)
  have o1 := ord_len ((ls.take (ls.length / 2)).flatMap tris)
  have o2 := ord_len ((ls.drop (ls.length / 2)).flatMap tris)
  have f1 := flat_len (ls.take (ls.length / 2))
  have f2 := flat_len (ls.drop (ls.length / 2))
  have hu := union_ev (keys (ls.take (ls.length / 2))) (keys (ls.drop (ls.length / 2))) (asc_ord _) (asc_ord _) (by unfold keys; omega)
  have e : ord (keys (ls.take (ls.length / 2)) ++ keys (ls.drop (ls.length / 2))) = keys ls := by
   refine ord_unique (asc_ord _) (fun v => ?_)
   rw [mem_ord, List.mem_append]
   unfold keys
   rw [mem_ord, mem_ord, ← List.mem_append, ← List.flatMap_append, List.take_append_drop]
  rw [e] at hu
  refine Ev.step (f := fun k => (spec_l4keys.f k (ls.take (ls.length / 2))).bind fun t274 => ((spec_l4keys.f k (ls.drop (ls.length / 2))).bind fun t281 => ((spec_l4union.f k t274 t281).bind fun t284 => (some t284)))) (fun k => ?_) (Ev.bind e1 (Ev.bind e2 (Ev.bind hu (Ev.now _))))
  simp only [spec_l4keys.f]
  rw [if_neg zq3, if_neg zq3, hw, if_pos zq3, if_pos zq3]
  simp only [Int.toNat_natCast]
theorem keys_len (ls : List (List Int)) : (keys ls).length ≤ totalB ls := Nat.le_trans (ord_len _) (flat_len ls)
theorem build_ev (b : Int) (ls : List (List Int)) (hb : Bytes ls) (hs : smallBB ls) (b0 : 0 ≤ b) (b1 : b ≤ 1000) : Ev (fun k => spec_l4build.f k b ls) (seg b ls) := by
 have hs' : ls.length + totalB ls ≤ 1048576 := hs
 have hk := keys_len ls
 let tl : List (List Int) := ls.map fun l => ord (tris l)
 have htl : tl.length = ls.length := by simp [tl]
 have hget : ∀ i, i < ls.length → tl.getD i [] = ord (tris (ls.getD i [])) := fun i hi => by simp [tl, List.getD, List.getElem?_eq_getElem hi]
 have L2 : ∀ (q : Nat) (P : List (List Int)), q < (keys ls).length → P.length = q → Ev (fun k => spec_l4build.l1 k b ls tl ((q + 1 : Nat) : Int) b ls (keys ls) (P ++ [post b ls ls.length ((keys ls).getD q 0)])) (seg b ls) →
   ∀ (d i : Nat), i + d = ls.length → Ev (fun k => spec_l4build.l2 k b ls tl (q : Int) (post b ls i ((keys ls).getD q 0)) (i : Int) b ls (keys ls) P) (seg b ls) := by
  intro q P hq hP hnext d
  induction d with
  | zero =>
   intro i hd
   have e : i = ls.length := by omega
   subst e
   refine Ev.step (fun k => ?_) hnext
   simp only [spec_l4build.l2]
   rw [if_neg zq3, if_pos zq3, wrap_succ q zq3]
  | succ d ih =>
   intro i hd
   have hpl := post_len b ls i ((keys ls).getD q 0)
   have hi := inList_ev (tl.getD i []) ((keys ls).getD q 0) (by rw [hget i zq3]; have h1 := ord_len (tris (ls.getD i [])); have h2 := tris_length (ls.getD i []); have h3 := getD_len ls i; omega)
   have hdec : decide ((keys ls).getD q 0 ∈ tl.getD i []) = hasT ls ((keys ls).getD q 0) i := by
    unfold hasT
    rw [hget i zq3]
    exact decide_eq_decide.2 (mem_ord _ _)
   rw [hdec] at hi
   have hr := ih (i + 1) zq3
   rw [post_succ] at hr
   refine Ev.step (f := fun k => (spec_l2inList.f k (tl.getD i []) ((keys ls).getD q 0)).bind fun t305 => (if t305 = true then (spec_l4build.l2 k b ls tl (q : Int) (post b ls i ((keys ls).getD q 0) ++ [b + (i : Int)]) ((i + 1 : Nat) : Int) b ls (keys ls) P) else (spec_l4build.l2 k b ls tl (q : Int) (post b ls i ((keys ls).getD q 0)) ((i + 1 : Nat) : Int) b ls (keys ls) P))) (fun k => ?_) (Ev.bind hi ?_)
   ·simp only [spec_l4build.l2]
    have e3 : rd_L3 tl (i : Int) = tl.getD i [] := rfl
    rw [if_pos zq3, if_pos zq3, if_pos zq3, if_pos zq3, if_pos zq3, e3, rd_at, if_pos zq3, wrap_in (x := b + (i : Int)) zq3, wrap_succ i zq3]
   ·by_cases hh : hasT ls ((keys ls).getD q 0) i = true
    ·rw [if_pos hh] at hr
     exact Ev.congr (fun k => by rw [if_pos hh]) hr
    ·rw [if_neg hh, List.append_nil] at hr
     exact Ev.congr (fun k => by rw [if_neg hh]) hr
 have L1 : ∀ (d q : Nat), q + d = (keys ls).length → Ev (fun k => spec_l4build.l1 k b ls tl (q : Int) b ls (keys ls) (((keys ls).take q).map (post b ls ls.length))) (seg b ls) := by
  intro d
  induction d with
  | zero =>
   intro q hd
   rw [List.take_of_length_le zq3]
   refine Ev.step (f := fun _ => some (seg b ls)) (fun k => ?_) (Ev.now _)
   simp only [spec_l4build.l1]
   rw [if_neg zq3]
   rfl
  | succ d ih =>
   intro q hd
   have hr := ih (q + 1) zq3
   have et : (keys ls).take (q + 1) = (keys ls).take q ++ [(keys ls).getD q 0] := by
    rw [List.take_succ_eq_append_getElem zq3]
    simp [List.getD, List.getElem?_eq_getElem (show q < (keys ls).length by omega)]
   rw [et, List.map_append] at hr
   refine Ev.step (fun k => ?_) (L2 q _ zq3 (by rw [List.length_map, List.length_take]; omega) hr ls.length 0 zq3)
   simp only [spec_l4build.l1]
   rw [if_pos zq3, show post b ls 0 ((keys ls).getD q 0) = [] from rfl]
   rfl
 have L0 : ∀ (d i : Nat), i + d = ls.length → Ev (fun k => spec_l4build.l0 k b ls (tl.take i) (i : Int) b ls (keys ls)) (seg b ls) := by
  intro d
  induction d with
  | zero =>
   intro i hd
   rw [List.take_of_length_le zq3]
   refine Ev.step (fun k => ?_) (L1 (keys ls).length 0 zq3)
   simp only [spec_l4build.l0]
   rw [if_neg zq3]
   rfl
  | succ d ih =>
   intro i hd
   have hr := ih (i + 1) zq3
   rw [take_snoc tl i zq3, hget i zq3] at hr
   refine Ev.step (f := fun k => (spec_Trigrams.f k (ls.getD i [])).bind fun t297 => (if (tl.take i).length < 5864062014805 then (spec_l4build.l0 k b ls (tl.take i ++ [t297]) ((i + 1 : Nat) : Int) b ls (keys ls)) else none)) (fun k => ?_) (Ev.bind (spec_ev _ (getD_bytes hb i) (by have := getD_len ls i; omega)) (Ev.congr (fun k => by rw [if_pos zq55]) hr))
   simp only [spec_l4build.l0]
   rw [if_pos zq3, if_pos zq3, rdB, wrap_succ i zq3]
 have h0 := L0 ls.length 0 zq3
 have h1 : Ev (fun k => (spec_l4copy.f k ls).bind fun t289 => ((spec_l4keys.f k ls).bind fun t293 => (spec_l4build.l0 k b ls ([] : List (List Int)) 0 b t289 t293))) (seg b ls) := Ev.bind (copy_ev ls hs) (Ev.bind (keys_ev _ ls (Nat.le_refl _) hb hs) h0)
 exact Ev.congr (fun k => by simp only [spec_l4build.f]) h1
end Go.Proofs.Ytmgmdnmfalepkaa.PSeg
