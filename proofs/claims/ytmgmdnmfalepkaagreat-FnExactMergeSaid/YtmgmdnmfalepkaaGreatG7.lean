/- Parts of the proof (see the row's own text): POrdL, PTri, Lfit. -/
import Derived.Test.YtmgmdnmfalepkaaGreatG00
import Derived.Test.YtmgmdnmfalepkaaGreatG2
import Derived.Test.YtmgmdnmfalepkaaGreatG6
import Derived.Test.YtmgmdnmfalepkaaGreatG4
namespace Go.Proofs.YtmgmdnmfalepkaaGreat.POrd
open Go.RowKit Go.Proofs.YtmgmdnmfalepkaaGreatW.PrintWords Go.Proofs.YtmgmdnmfalepkaaGreat.PKit Go.Proofs.YtmgmdnmfalepkaaGreat.L
structure Inv (x y out : List Int) (i j : Nat) : Prop where
 asc : Asc out
 mem : ∀ v, v ∈ out ↔ v ∈ x.take i ∨ v ∈ y.take j
 hx : ∀ v ∈ out, ∀ k (h : k < x.length), i ≤ k → v ≤ x[k]
 hy : ∀ v ∈ out, ∀ k (h : k < y.length), j ≤ k → v ≤ y[k]
def put (out : List Int) (v : Int) : List Int := if out.getLast? = some v then out else out ++ [v]
theorem mem_put (out : List Int) (v z : Int) : z ∈ put out v ↔ z ∈ out ∨ z = v := by
 unfold put
 split
 ·rename_i h
  have := List.mem_of_getLast? h
  constructor
  ·exact .inl
  ·rintro (h | h)
   ·exact h
   ·subst h; exact this
 ·simp
theorem asc_put {out : List Int} {v : Int} (h : Asc out) (hle : ∀ u ∈ out, u ≤ v) : Asc (put out v) := by
 unfold put
 split
 ·exact h
 ·rename_i hne
  rw [Asc, List.pairwise_append]
  refine ⟨h, zq12, fun u hu w hw => ?_⟩
  rw [List.mem_singleton] at hw
  subst hw
  have h1 := hle u hu
  rcases Int.lt_or_eq_of_le h1 with h2 | h2
  ·exact h2
  ·exfalso
   subst h2
   apply hne
   obtain ⟨q, hq⟩ : ∃ q, out.getLast? = some q := by
    cases ho : out with
    | nil => rw [ho] at hu; simp at hu
    | cons a b => exact ⟨_, List.getLast?_eq_some_getLast zq12⟩
   have hqm := List.mem_of_getLast? hq
   have hqle := hle q hqm
   have huq : u ≤ q := by
    obtain ⟨k, hk, rfl⟩ := List.getElem_of_mem hu
    have hql : q = out[out.length - 1]'zq1 := by
     have := hq
     rw [List.getLast?_eq_getElem?, List.getElem?_eq_getElem zq1] at this
     injection this with this
     exact this.symm
    rw [hql]
    by_cases e : k = out.length - 1
    ·subst e; exact Int.le_refl _
    ·exact Int.le_of_lt (asc_get h zq1 zq1)
   have : u = q := by omega
   rw [this]
   exact hq
theorem mem_take_succ (x : List Int) (i : Nat) (h : i < x.length) (v : Int) : v ∈ x.take (i + 1) ↔ v ∈ x.take i ∨ v = x[i] := by
 rw [List.take_succ_eq_append_getElem h, List.mem_append, List.mem_singleton]
theorem Inv.left {x y out : List Int} {i j : Nat} (h : Inv x y out i j) (hx : Asc x) (hi : i < x.length) (hle : ∀ k (hk : k < y.length), j ≤ k → x[i] ≤ y[k]) : Inv x y (put out x[i]) (i + 1) j where
 asc := asc_put h.asc (fun u hu => h.hx u hu i hi (Nat.le_refl _))
 mem := fun v => by
  rw [mem_put, h.mem, mem_take_succ x i hi]
  constructor
  ·rintro ((h | h) | h)
   ·exact .inl (.inl h)
   ·exact .inr h
   ·exact .inl (.inr h)
  ·rintro ((h | h) | h)
   ·exact .inl (.inl h)
   ·exact .inr h
   ·exact .inl (.inr h)
 hx := fun v hv k hk hik => by
  rcases (mem_put _ _ _).1 hv with hv | rfl
  ·exact h.hx v hv k hk zq1
  ·exact Int.le_of_lt (asc_get hx zq1 hk)
 hy := fun v hv k hk hjk => by
  rcases (mem_put _ _ _).1 hv with hv | rfl
  ·exact h.hy v hv k hk hjk
  ·exact hle k hk hjk
theorem Inv.right {x y out : List Int} {i j : Nat} (h : Inv x y out i j) (hy : Asc y) (hj : j < y.length) (hle : ∀ k (hk : k < x.length), i ≤ k → y[j] ≤ x[k]) : Inv x y (put out y[j]) i (j + 1) where
 asc := asc_put h.asc (fun u hu => h.hy u hu j hj (Nat.le_refl _))
 mem := fun v => by
  rw [mem_put, h.mem, mem_take_succ y j hj]
  constructor
  ·rintro ((h | h) | h)
   ·exact .inl h
   ·exact .inr (.inl h)
   ·exact .inr (.inr h)
  ·rintro (h | h | h)
   ·exact .inl (.inl h)
   ·exact .inl (.inr h)
   ·exact .inr h
 hx := fun v hv k hk hik => by
  rcases (mem_put _ _ _).1 hv with hv | rfl
  ·exact h.hx v hv k hk hik
  ·exact hle k hk hik
 hy := fun v hv k hk hjk => by
  rcases (mem_put _ _ _).1 hv with hv | rfl
  ·exact h.hy v hv k hk zq1
  ·exact Int.le_of_lt (asc_get hy zq1 hk)
theorem put_len (out : List Int) (v : Int) : (put out v).length ≤ out.length + 1 := by
 unfold put
 split <;> simp
theorem last_test (out : List Int) (v : Int) (hl : out.length < 4611686018427387904) (hne : ¬ (out.length : Int) = 0) : 0 ≤ wrap64 ((out.length : Int) - 1) ∧ wrap64 ((out.length : Int) - 1) < (out.length : Int) ∧ (rd out (wrap64 ((out.length : Int) - 1)) = v ↔ out.getLast? = some v) := by
 have e : wrap64 ((out.length : Int) - 1) = ((out.length - 1 : Nat) : Int) := by rw [wrap_in zq1]; omega
 rw [e]
 refine ⟨zq1, zq1, ?_⟩
 rw [rd_get out _ zq1, List.getLast?_eq_getElem?, List.getElem?_eq_getElem zq1]
 simp
theorem step_left (x y out : List Int) (i j : Nat) (hi : i < x.length) (hx : x.length < 4611686018427387904) (ho : out.length < 17592186044416) (k : Nat) :
  spec_l3order.j2 (k + 1) x y out i j true = spec_l3order.l0 k x y (put out x[i]) ((i + 1 : Nat) : Int) j := by
 simp only [spec_l3order.j2]
 rw [if_pos trivial, if_pos zq1, if_pos zq1, wrap_succ i zq1, rd_get x i hi]
 by_cases h0 : (out.length : Int) = 0
 ·have : out = [] := List.length_eq_zero_iff.1 zq1
  subst this
  rw [if_pos h0, if_pos zq12]
  simp [put]
 ·obtain ⟨h1, h2, h3⟩ := last_test out x[i] zq1 h0
  rw [if_neg h0, if_pos h1, if_pos h2]
  by_cases e : out.getLast? = some x[i]
  ·rw [if_pos (h3.2 e)]
   simp only [put, e, if_true]
  ·rw [if_neg (fun h => e (h3.1 h)), if_pos ho]
   simp only [put, e, if_false]
theorem step_right (x y out : List Int) (i j : Nat) (hj : j < y.length) (hy : y.length < 4611686018427387904) (ho : out.length < 17592186044416) (k : Nat) :
  spec_l3order.j2 (k + 1) x y out i j false = spec_l3order.l0 k x y (put out y[j]) i ((j + 1 : Nat) : Int) := by
 simp only [spec_l3order.j2]
 rw [if_neg zq12, if_pos zq1, if_pos zq1, wrap_succ j zq1, rd_get y j hj]
 by_cases h0 : (out.length : Int) = 0
 ·have : out = [] := List.length_eq_zero_iff.1 zq1
  subst this
  rw [if_pos h0, if_pos zq12]
  simp [put]
 ·obtain ⟨h1, h2, h3⟩ := last_test out y[j] zq1 h0
  rw [if_neg h0, if_pos h1, if_pos h2]
  by_cases e : out.getLast? = some y[j]
  ·rw [if_pos (h3.2 e)]
   simp only [put, e, if_true]
  ·rw [if_neg (fun h => e (h3.1 h)), if_pos ho]
   simp only [put, e, if_false]
theorem merge_ev (x y : List Int) (hx : Asc x) (hy : Asc y) (lx : x.length + y.length < 17592186044416) : ∀ (d i j : Nat) (out : List Int), (x.length - i) + (y.length - j) = d → i ≤ x.length → j ≤ y.length → out.length ≤ i + j → Inv x y out i j →
  ∃ r, Ev (fun k => spec_l3order.l0 k x y out i j) r ∧ Asc r ∧ (∀ v, v ∈ r ↔ v ∈ x ∨ v ∈ y) := by
 intro d
 induction d with
 | zero =>
  intro i j out hd hi hj ho h
  refine ⟨out, ?_, h.asc, fun v => ?_⟩
  ·refine Ev.step (f := fun k => spec_l3order.j1 k x y out i j false) (fun k => ?_) (Ev.step (f := fun _ => some out) (fun k => ?_) (Ev.now _))
   ·simp only [spec_l3order.l0]
    rw [if_neg zq1]
    congr 1
    exact decide_eq_false zq1
   ·simp only [spec_l3order.j1]
    rw [if_neg zq12]
  ·rw [h.mem, List.take_of_length_le zq1, List.take_of_length_le zq1]
 | succ d ih =>
  intro i j out hd hi hj ho h
  have hl : ∀ {r}, Ev (fun k => spec_l3order.j1 k x y out i j true) r → Ev (fun k => spec_l3order.l0 k x y out i j) r := fun {r} he => Ev.step (fun k => by
   simp only [spec_l3order.l0]
   by_cases hc : (i : Int) < (x.length : Int)
   ·rw [if_pos hc]
   ·rw [if_neg hc]
    congr 1
    exact decide_eq_true zq1) he
  by_cases hjy : j < y.length
  ·by_cases hix : i < x.length
   ·by_cases hle : x[i] ≤ y[j]
    ·obtain ⟨r, hr, hr2⟩ := ih (i + 1) j (put out x[i]) zq1 zq1 hj (by have := put_len out x[i]; omega) (h.left hx hix (fun k hk hjk => by
      by_cases e : j = k
      ·subst e; exact hle
      ·have := asc_get hy (show j < k by omega) hk; omega))
     refine ⟨r, hl (Ev.step (f := fun k => spec_l3order.j2 k x y out i j true) (fun k => ?_) (Ev.step (fun k => step_left x y out i j hix zq1 zq1 k) hr)), hr2⟩
     simp only [spec_l3order.j1]
     rw [if_pos trivial, if_neg zq1, if_pos zq1, if_pos zq1, if_pos zq1, if_pos zq1, rd_get x i hix, rd_get y j hjy, decide_eq_true hle]
    ·obtain ⟨r, hr, hr2⟩ := ih i (j + 1) (put out y[j]) zq1 hi zq1 (by have := put_len out y[j]; omega) (h.right hy hjy (fun k hk hik => by
      by_cases e : i = k
      ·subst e; omega
      ·have := asc_get hx (show i < k by omega) hk; omega))
     refine ⟨r, hl (Ev.step (f := fun k => spec_l3order.j2 k x y out i j false) (fun k => ?_) (Ev.step (fun k => step_right x y out i j hjy zq1 zq1 k) hr)), hr2⟩
     simp only [spec_l3order.j1]
     rw [if_pos trivial, if_neg zq1, if_pos zq1, if_pos zq1, if_pos zq1, if_pos zq1, rd_get x i hix, rd_get y j hjy, decide_eq_false hle]
   ·obtain ⟨r, hr, hr2⟩ := ih i (j + 1) (put out y[j]) zq1 hi zq1 (by have := put_len out y[j]; omega) (h.right hy hjy (fun k hk hik => by omega))
    refine ⟨r, hl (Ev.step (f := fun k => spec_l3order.j2 k x y out i j false) (fun k => ?_) (Ev.step (fun k => step_right x y out i j hjy zq1 zq1 k) hr)), hr2⟩
    simp only [spec_l3order.j1]
    rw [if_pos trivial, if_neg zq1, if_neg zq1]
  ·obtain ⟨r, hr, hr2⟩ := ih (i + 1) j (put out (x[i]'zq1)) zq1 zq1 hj (by have := put_len out (x[i]'zq1); omega) (h.left hx zq1 (fun k hk hjk => by omega))
   refine ⟨r, hl (Ev.step (f := fun k => spec_l3order.j2 k x y out i j true) (fun k => ?_) (Ev.step (fun k => step_left x y out i j zq1 zq1 zq1 k) hr)), hr2⟩
   simp only [spec_l3order.j1]
   rw [if_pos trivial, if_pos zq1]
theorem order_ev : ∀ (n : Nat) (l : List Int), l.length ≤ n → l.length < 17592186044416 → Ev (fun k => spec_l3order.f k l) (ord l) := by
 intro n
 induction n with
 | zero =>
  intro l hl _
  have : l = [] := List.length_eq_zero_iff.1 zq1
  subst this
  exact Ev.step (f := fun _ => some []) (fun k => by simp [spec_l3order.f]) (Ev.now _)
 | succ n ih =>
  intro l hl hb
  by_cases h2 : (l.length : Int) < 2
  ·have e : l = ord l := ord_unique (by
    match l, h2 with
    | [], _ => simp
    | [a], _ => simp
    | a :: b :: r, h => simp at h; omega) (fun _ => Iff.rfl)
   refine Ev.step (f := fun _ => some (ord l)) (fun k => ?_) (Ev.now _)
   simp only [spec_l3order.f]
   rw [if_pos h2, if_pos (by simpa using hb), List.nil_append, ← e]
  ·have hw : wrap64 ((l.length : Int) / 2) = ((l.length / 2 : Nat) : Int) := by rw [wrap_in zq1]; omega
   have hm1 : (l.take (l.length / 2)).length = l.length / 2 := by rw [List.length_take]; omega
   have hm2 : (l.drop (l.length / 2)).length = l.length - l.length / 2 := List.length_drop ..
   have h1 := ih (l.take (l.length / 2)) zq1 zq1
   have h3 := ih (l.drop (l.length / 2)) zq1 zq1
   have o1 := ord_len (l.take (l.length / 2))
   have o2 := ord_len (l.drop (l.length / 2))
   obtain ⟨r, hr, ha, hmem⟩ := merge_ev (ord (l.take (l.length / 2))) (ord (l.drop (l.length / 2))) (asc_ord _) (asc_ord _) zq1 _ 0 0 [] rfl (Nat.zero_le _) (Nat.zero_le _) zq12
    ⟨zq12, zq12, zq12, zq12⟩
   have e : r = ord l := ord_unique ha (fun v => by
    rw [hmem, mem_ord, mem_ord, ← List.mem_append, List.take_append_drop])
   rw [e] at hr
   refine Ev.step (f := fun k => (spec_l3order.f k (l.take (l.length / 2))).bind fun t109 => ((spec_l3order.f k (l.drop (l.length / 2))).bind fun t113 => (spec_l3order.l0 k t109 t113 ([] : List Int) 0 0))) (fun k => ?_) (Ev.bind h1 (Ev.bind h3 hr))
   simp only [spec_l3order.f]
   rw [if_neg h2, hw, if_pos zq1, if_pos zq1]
   simp only [Int.toNat_natCast]
end Go.Proofs.YtmgmdnmfalepkaaGreat.POrd

namespace Go.Proofs.YtmgmdnmfalepkaaGreat.PTri
open Go.RowKit Go.Proofs.YtmgmdnmfalepkaaGreatW.PrintWords Go.Proofs.YtmgmdnmfalepkaaGreat.PKit Go.Proofs.YtmgmdnmfalepkaaGreat.POrd Go.Proofs.YtmgmdnmfalepkaaGreat.L
set_option linter.unusedVariables false
def upto {α : Type} (f : Nat → α) (k : Nat) : List α := (List.range k).map f
theorem upto_succ {α : Type} (f : Nat → α) (k : Nat) : upto f (k + 1) = upto f k ++ [f k] := by simp [upto, List.range_succ]
theorem upto_length {α : Type} (f : Nat → α) (k : Nat) : (upto f k).length = k := by simp [upto]
def tri (l : List Int) (i : Nat) : Int := l.getD i 0 * 65536 + l.getD (i + 1) 0 * 256 + l.getD (i + 2) 0
def tris (l : List Int) : List Int := upto (tri l) (l.length - 2)
theorem tris_length (l : List Int) : (tris l).length = l.length - 2 := upto_length _ _
theorem getD_bd (l : List Int) (hb : ∀ x ∈ l, 0 ≤ x ∧ x ≤ 255) (i : Nat) : 0 ≤ l.getD i 0 ∧ l.getD i 0 ≤ 255 := by
 by_cases h : i < l.length
 ·have : l.getD i 0 = l[i] := by simp [List.getD, List.getElem?_eq_getElem h]
  rw [this]
  exact hb _ (List.getElem_mem h)
 ·have : l.getD i 0 = 0 := by simp [List.getD, List.getElem?_eq_none (Nat.le_of_not_lt h)]
  omega
theorem tri_bd (l : List Int) (hb : ∀ x ∈ l, 0 ≤ x ∧ x ≤ 255) (i : Nat) : 0 ≤ tri l i ∧ tri l i ≤ 16777215 := by
 have h0 := getD_bd l hb i
 have h1 := getD_bd l hb (i + 1)
 have h2 := getD_bd l hb (i + 2)
 unfold tri
 omega
theorem tris_bd (l : List Int) (hb : ∀ x ∈ l, 0 ≤ x ∧ x ≤ 255) : ∀ x ∈ tris l, 0 ≤ x ∧ x ≤ 16777215 := by
 intro x hx
 unfold tris upto at hx
 obtain ⟨i, _, rfl⟩ := List.mem_map.1 hx
 exact tri_bd l hb i
theorem spec_ev (l : List Int) (hb : ∀ x ∈ l, 0 ≤ x ∧ x ≤ 255) (hl : l.length ≤ 1048576) : Ev (fun k => spec_Trigrams.f k l) (ord (tris l)) := by
 have key : ∀ (d i : Nat), i + d = l.length - 2 → Ev (fun k => spec_Trigrams.l0 k l (upto (tri l) i) (i : Int)) (ord (tris l)) := by
  intro d
  induction d with
  | zero =>
   intro i hd
   have e : i = l.length - 2 := by omega
   subst e
   refine Ev.step (f := fun k => (spec_l3order.f k (upto (tri l) (l.length - 2))).bind fun t => some t) (fun k => ?_) (Ev.bind (order_ev _ _ (Nat.le_refl _) (by rw [upto_length]; omega)) (Ev.now _))
   simp only [spec_Trigrams.l0]
   rw [wrap_in (x := (((l.length - 2 : Nat) : Int)) + 2) zq1]
   by_cases h2 : l.length ≤ 1
   ·rw [if_neg zq1]
   ·rw [if_neg zq1]
  | succ d ih =>
   intro i hd
   have h0 := getD_bd l hb i
   have h1 := getD_bd l hb (i + 1)
   have h2 := getD_bd l hb (i + 2)
   refine Ev.step (fun k => ?_) (ih (i + 1) zq1)
   simp only [spec_Trigrams.l0]
   have e0 : rd l (i : Int) = l.getD i 0 := rfl
   have e1 : rd l ((i + 1 : Nat) : Int) = l.getD (i + 1) 0 := rfl
   have e2 : rd l ((i + 2 : Nat) : Int) = l.getD (i + 2) 0 := rfl
   rw [wrap_in (x := (i : Int) + 2) zq1, wrap_in (x := (i : Int) + 1) zq1]
   rw [if_pos zq1, if_pos zq1, if_pos zq1, if_pos zq1, if_pos zq1, if_pos zq1]
   rw [show (i : Int) + 1 = ((i + 1 : Nat) : Int) by omega, show (i : Int) + 2 = ((i + 2 : Nat) : Int) by omega, e0, e1, e2]
   simp only [spec_l3num.f]
   rw [wrap_in (x := l.getD i 0) zq1, wrap_in (x := l.getD (i + 1) 0) zq1, wrap_in (x := l.getD (i + 2) 0) zq1]
   rw [wrap_in (x := l.getD i 0 * 65536) zq1, wrap_in (x := l.getD (i + 1) 0 * 256) zq1, wrap_in (x := l.getD i 0 * 65536 + l.getD (i + 1) 0 * 256) zq1, wrap_in (x := l.getD i 0 * 65536 + l.getD (i + 1) 0 * 256 + l.getD (i + 2) 0) zq1]
   rw [Option.bind_some, if_pos (by rw [upto_length]; omega), upto_succ]
   rfl
 have h := key (l.length - 2) 0 zq1
 exact Ev.congr (fun k => by simp only [spec_Trigrams.f]; rfl) h
end Go.Proofs.YtmgmdnmfalepkaaGreat.PTri

namespace Go.Proofs.YtmgmdnmfalepkaaGreat.L
open Go.RowKit Go.Proofs.YtmgmdnmfalepkaaGreatW.PrintWords Go.Proofs.YtmgmdnmfalepkaaGreatW.PrintLast Go.Proofs.YtmgmdnmfalepkaaGreatW.PrintMore
attribute [local go_sem] max2_int min2_int max_two min_two max_three min_three max_four min_four
set_option linter.unusedVariables false
set_option linter.unusedSimpArgs false
def spec_l4bytes.l0 : Nat → List (List Int) → Int → Int → Option (Int)
 | 0, _, _, _ => none
 | k + 1, x0, x3, x4 => if x4 < (x0.length : Int) then (if 0 ≤ x4 then (spec_l4bytes.l0 k x0 (wrap64 (x3 + ((rd_L1 x0 x4).length : Int))) (wrap64 (x4 + 1))) else (none)) else (some x3)
def spec_l4bytes.f (k : Nat) (l0 : List (List Int)) : Option (Int) := spec_l4bytes.l0 k l0 0 0
theorem spec_l4bytes.mono_l : ∀ k, (∀ y0 y1 y2, LeO (spec_l4bytes.l0 k y0 y1 y2) (spec_l4bytes.l0 (k + 1) y0 y1 y2))
 | 0 => fun _ _ _ r h => by simp [spec_l4bytes.l0] at h
 | k + 1 => by
  have ih0 := spec_l4bytes.mono_l k
  ·intro y0 y1 y2
   unfold spec_l4bytes.l0
   repeat' first
   | (with_reducible exact ih0 _ _ _)
   | (with_reducible exact LeO.refl _)
   | (with_reducible exact LeO.none _)
   | (with_reducible refine LeO.ite ?_ ?_)
   | (with_reducible refine LeO.bind ?_ (fun _ => ?_))
   | exact ih0 _ _ _
   | exact LeO.none _
   | refine LeO.ite ?_ ?_
   | refine LeO.bind ?_ (fun _ => ?_)
theorem spec_l4bytes.mono : ∀ a0 k, LeO (spec_l4bytes.f k a0) (spec_l4bytes.f (k + 1) a0) := by
 intro a0 k
 have ih0 := spec_l4bytes.mono_l k
 unfold spec_l4bytes.f
 repeat' first
   | (with_reducible exact ih0 _ _ _)
   | (with_reducible exact LeO.refl _)
   | (with_reducible exact LeO.none _)
   | (with_reducible refine LeO.ite ?_ ?_)
   | (with_reducible refine LeO.bind ?_ (fun _ => ?_))
   | exact ih0 _ _ _
   | exact LeO.none _
   | refine LeO.ite ?_ ?_
   | refine LeO.bind ?_ (fun _ => ?_)
set_option maxHeartbeats 8000000 in
set_option maxRecDepth 100000 in
theorem spec_l4bytes.calls (k : Nat) (A0 : Option Addr) (c0 : Nat) (l0 : List (List Int)) (r : Int) (w : World) (hr0 : Kd.C (Kd.slice 5 (Kd.int .u8)) w A0 l0.length l0) (hc0 : l0.length ≤ c0) (h : spec_l4bytes.f k l0 = some r) :
  Calls Tryz.prog 24 #[.slice A0 l0.length c0] w fun e w' => e = .returned (.int .i64 r) ∧ Drawn0 w w' := by
 have HR0 := zA hr0
 have HC0 := zA hc0
 clear hr0 hc0
 have H : (spec_l4bytes.l0 k l0 0 0) = some r := h
 clear h
 have H' := zA H
 clear H
 go_enter Tryz.func24, Tryz.ntmps24
 go_wp2
 go_loopg [3, 4] k (fun kq v3 v4 w' => ∃ (x3_1 : Int) (x4_1 : Int), v3 = .int .i64 x3_1 ∧ v4 = .int .i64 x4_1 ∧ Aside0 (spec_l4bytes.l0 kq l0 x3_1 x4_1 = some r) ∧ Aside0 (kq ≤ k) ∧ Drawn0 w w')
 case atStart => exact ⟨(0), (0), zq4, zq4, H', ⟨Nat.le_refl _⟩, zq8⟩
 case round =>
  clear H'
  obtain ⟨x3_1, x4_1, rfl, rfl, HA, HK1, ⟨m1, rfl⟩⟩ := hrel
  cases gk with
  | zero => exact absurd HA.out (by simp [spec_l4bytes.l0])
  | succ k1 =>
   have H := HA.out
   clear HA
   simp only [spec_l4bytes.l0] at H
   by_cases c2 : x4_1 < (l0.length : Int)
   ·rw [if_pos c2] at H
    have c2b0 : decide (x4_1 < (l0.length : Int)) = true := decide_eq_true c2
    clear c2
    by_cases c3 : 0 ≤ x4_1
    ·rw [if_pos c3] at H
     have c3b0 : decide (0 ≤ x4_1) = true := decide_eq_true c3
     clear c3
     have H' := zA H
     clear H
     have p166 : 0 ≤ (x4_1 : Int) := of_decide_eq_true zq2
     have q166 : x4_1 < (l0.length : Int) := of_decide_eq_true zq2
     obtain ⟨ad166, A166_0, c166_0, e166, hx166_0, hl166_0, hi166_0⟩ := at_L1 HR0.out x4_1 p166 q166
     cases e166
     have HR166_0 := zA hi166_0
     have HC166_0 := zA hl166_0
     clear hi166_0 hl166_0
     replace p166 := eq_true p166
     replace q166 := eq_true q166
     go_wp2
     go_roundg k1
     case measure => have := HK1.out; omega
     case rel => exact ⟨(wrap64 (x3_1 + ((rd_L1 l0 x4_1).length : Int))), (wrap64 (x4_1 + 1)), zq4, zq4, H', ⟨zq33⟩, zq8⟩
    ·rw [if_neg c3] at H
     exact absurd H zq12
   ·rw [if_neg c2] at H
    have c2b0 : decide (x4_1 < (l0.length : Int)) = false := decide_eq_false c2
    clear c2
    obtain rfl := Option.some.inj H
    go_wp2
    go_ret
    exact ⟨zq4, zq8⟩
mutual
def spec_l4plain.l0 : Nat → List (List Int) → Int → Option (Bool)
 | 0, _, _ => none
 | k + 1, x0, x3 => if x3 < (x0.length : Int) then (spec_l4plain.l1 k x0 x3 0) else (some true)
def spec_l4plain.l1 : Nat → List (List Int) → Int → Int → Option (Bool)
 | 0, _, _, _ => none
 | k + 1, x0, x3, x4 => if 0 ≤ x3 then (if x3 < (x0.length : Int) then (if x4 < ((rd_L1 x0 x3).length : Int) then (if 0 ≤ x4 then (if (rd (rd_L1 x0 x3) x4) = 10 then (some false) else (spec_l4plain.l1 k x0 x3 (wrap64 (x4 + 1)))) else (none)) else (spec_l4plain.l0 k x0 (wrap64 (x3 + 1)))) else (none)) else (none)
end
def spec_l4plain.f (k : Nat) (l0 : List (List Int)) : Option (Bool) := spec_l4plain.l0 k l0 0
theorem spec_l4plain.mono_l : ∀ k, (∀ y0 y1, LeO (spec_l4plain.l0 k y0 y1) (spec_l4plain.l0 (k + 1) y0 y1)) ∧ (∀ y0 y1 y2, LeO (spec_l4plain.l1 k y0 y1 y2) (spec_l4plain.l1 (k + 1) y0 y1 y2))
 | 0 => ⟨fun _ _ r h => by simp [spec_l4plain.l0] at h, fun _ _ _ r h => by simp [spec_l4plain.l1] at h⟩
 | k + 1 => by
  obtain ⟨ih0, ih1⟩ := spec_l4plain.mono_l k
  refine ⟨?_, ?_⟩
  ·intro y0 y1
   unfold spec_l4plain.l0
   repeat' first
   | (with_reducible exact ih0 _ _)
   | (with_reducible exact ih1 _ _ _)
   | (with_reducible exact LeO.refl _)
   | (with_reducible exact LeO.none _)
   | (with_reducible refine LeO.ite ?_ ?_)
   | (with_reducible refine LeO.bind ?_ (fun _ => ?_))
   | exact ih0 _ _
   | exact ih1 _ _ _
   | exact LeO.none _
   | refine LeO.ite ?_ ?_
   | refine LeO.bind ?_ (fun _ => ?_)
  ·intro y0 y1 y2
   unfold spec_l4plain.l1
   repeat' first
   | (with_reducible exact ih0 _ _)
   | (with_reducible exact ih1 _ _ _)
   | (with_reducible exact LeO.refl _)
   | (with_reducible exact LeO.none _)
   | (with_reducible refine LeO.ite ?_ ?_)
   | (with_reducible refine LeO.bind ?_ (fun _ => ?_))
   | exact ih0 _ _
   | exact ih1 _ _ _
   | exact LeO.none _
   | refine LeO.ite ?_ ?_
   | refine LeO.bind ?_ (fun _ => ?_)
theorem spec_l4plain.mono : ∀ a0 k, LeO (spec_l4plain.f k a0) (spec_l4plain.f (k + 1) a0) := by
 intro a0 k
 obtain ⟨ih0, ih1⟩ := spec_l4plain.mono_l k
 unfold spec_l4plain.f
 repeat' first
   | (with_reducible exact ih0 _ _)
   | (with_reducible exact ih1 _ _ _)
   | (with_reducible exact LeO.refl _)
   | (with_reducible exact LeO.none _)
   | (with_reducible refine LeO.ite ?_ ?_)
   | (with_reducible refine LeO.bind ?_ (fun _ => ?_))
   | exact ih0 _ _
   | exact ih1 _ _ _
   | exact LeO.none _
   | refine LeO.ite ?_ ?_
   | refine LeO.bind ?_ (fun _ => ?_)
set_option maxHeartbeats 8000000 in
set_option maxRecDepth 100000 in
theorem spec_l4plain.calls (k : Nat) (A0 : Option Addr) (c0 : Nat) (l0 : List (List Int)) (r : Bool) (w : World) (hr0 : Kd.C (Kd.slice 5 (Kd.int .u8)) w A0 l0.length l0) (hc0 : l0.length ≤ c0) (h : spec_l4plain.f k l0 = some r) :
  Calls Tryz.prog 48 #[.slice A0 l0.length c0] w fun e w' => e = .returned (.bool r) ∧ Drawn0 w w' := by
 have HR0 := zA hr0
 have HC0 := zA hc0
 clear hr0 hc0
 have H : (spec_l4plain.l0 k l0 0) = some r := h
 clear h
 have H' := zA H
 clear H
 go_enter Tryz.func48, Tryz.ntmps48
 go_wp2
 go_loopg [3] k (fun kq v3 w' => ∃ (x3_1 : Int), v3 = .int .i64 x3_1 ∧ Aside0 (spec_l4plain.l0 kq l0 x3_1 = some r) ∧ Aside0 (kq ≤ k) ∧ Drawn0 w w')
 case atStart => exact ⟨(0), zq4, H', ⟨Nat.le_refl _⟩, zq8⟩
 case round =>
  clear H'
  obtain ⟨x3_1, rfl, HA, HK1, ⟨m1, rfl⟩⟩ := hrel
  cases gk with
  | zero => exact absurd HA.out (by simp [spec_l4plain.l0])
  | succ k1 =>
   have H := HA.out
   clear HA
   simp only [spec_l4plain.l0] at H
   by_cases c2 : x3_1 < (l0.length : Int)
   ·rw [if_pos c2] at H
    have c2b0 : decide (x3_1 < (l0.length : Int)) = true := decide_eq_true c2
    clear c2
    have H' := zA H
    clear H
    go_wp2
    go_loopg [4] k1 (fun kq v4 w' => ∃ (x4_2 : Int), v4 = .int .i64 x4_2 ∧ Aside0 (spec_l4plain.l1 kq l0 x3_1 x4_2 = some r) ∧ Aside0 (kq ≤ k1) ∧ Drawn0 w w')
    case atStart => exact ⟨(0), zq4, H', ⟨Nat.le_refl _⟩, zq8⟩
    case round =>
     clear H'
     try clear c2
     try clear c2b0
     try clear p2
     obtain ⟨x4_2, rfl, HA, HK2, ⟨m2, rfl⟩⟩ := hrel
     cases gk with
     | zero => exact absurd HA.out (by simp [spec_l4plain.l1])
     | succ k2 =>
      have H := HA.out
      clear HA
      simp only [spec_l4plain.l1] at H
      by_cases c3 : 0 ≤ x3_1
      ·rw [if_pos c3] at H
       have c3b0 : decide (0 ≤ x3_1) = true := decide_eq_true c3
       clear c3
       by_cases c4 : x3_1 < (l0.length : Int)
       ·rw [if_pos c4] at H
        have c4b0 : decide (x3_1 < (l0.length : Int)) = true := decide_eq_true c4
        clear c4
        by_cases c5 : x4_2 < ((rd_L1 l0 x3_1).length : Int)
        ·rw [if_pos c5] at H
         have c5b0 : decide (x4_2 < ((rd_L1 l0 x3_1).length : Int)) = true := decide_eq_true c5
         clear c5
         by_cases c6 : 0 ≤ x4_2
         ·rw [if_pos c6] at H
          have c6b0 : decide (0 ≤ x4_2) = true := decide_eq_true c6
          clear c6
          by_cases c7 : (rd (rd_L1 l0 x3_1) x4_2) = 10
          ·rw [if_pos c7] at H
           have c7b0 : ((rd (rd_L1 l0 x3_1) x4_2) == 10) = true := beq_iff_eq.mpr c7
           have c7b1 : ((rd (rd_L1 l0 x3_1) x4_2) != 10) = false := bne_eq_false_iff_eq.mpr c7
           clear c7
           obtain rfl := Option.some.inj H
           have p167 : 0 ≤ (x3_1 : Int) := of_decide_eq_true zq2
           have q167 : x3_1 < (l0.length : Int) := of_decide_eq_true zq2
           obtain ⟨ad167, A167_0, c167_0, e167, hx167_0, hl167_0, hi167_0⟩ := at_L1 HR0.out x3_1 p167 q167
           cases e167
           have HR167_0 := zA hi167_0
           have HC167_0 := zA hl167_0
           clear hi167_0 hl167_0
           replace p167 := eq_true p167
           replace q167 := eq_true q167
           have p168 : 0 ≤ (x3_1 : Int) := of_decide_eq_true zq2
           have q168 : x3_1 < (l0.length : Int) := of_decide_eq_true zq2
           obtain ⟨ad168, A168_0, c168_0, e168, hx168_0, hl168_0, hi168_0⟩ := at_L1 HR0.out x3_1 p168 q168
           obtain rfl : ad167 = ad168 := (by injection e168)
           have HR168_0 := zA hi168_0
           have HC168_0 := zA hl168_0
           clear hi168_0 hl168_0
           replace p168 := eq_true p168
           replace q168 := eq_true q168
           have ea_ := Option.some.inj (hx167_0.symm.trans hx168_0)
           injection ea_ with ea_ en_ ec_
           subst ea_
           subst ec_
           clear en_
           have p169 : 0 ≤ (x4_2 : Int) := of_decide_eq_true zq2
           have q169 : x4_2 < ((rd_L1 l0 x3_1).length : Int) := of_decide_eq_true zq2
           obtain ⟨ad169, e169, hx169_0⟩ := Kd.at_int HR168_0.out x4_2 p169 q169
           cases e169
           replace p169 := eq_true p169
           replace q169 := eq_true q169
           go_wp2
           go_ret
           exact ⟨zq4, zq8⟩
          ·rw [if_neg c7] at H
           have c7b0 : ((rd (rd_L1 l0 x3_1) x4_2) == 10) = false := beq_eq_false_iff_ne.mpr c7
           have c7b1 : ((rd (rd_L1 l0 x3_1) x4_2) != 10) = true := bne_iff_ne.mpr c7
           have H' := zA H
           clear H
           have p167 : 0 ≤ (x3_1 : Int) := of_decide_eq_true zq2
           have q167 : x3_1 < (l0.length : Int) := of_decide_eq_true zq2
           obtain ⟨ad167, A167_0, c167_0, e167, hx167_0, hl167_0, hi167_0⟩ := at_L1 HR0.out x3_1 p167 q167
           cases e167
           have HR167_0 := zA hi167_0
           have HC167_0 := zA hl167_0
           clear hi167_0 hl167_0
           replace p167 := eq_true p167
           replace q167 := eq_true q167
           have p168 : 0 ≤ (x3_1 : Int) := of_decide_eq_true zq2
           have q168 : x3_1 < (l0.length : Int) := of_decide_eq_true zq2
           obtain ⟨ad168, A168_0, c168_0, e168, hx168_0, hl168_0, hi168_0⟩ := at_L1 HR0.out x3_1 p168 q168
           obtain rfl : ad167 = ad168 := (by injection e168)
           have HR168_0 := zA hi168_0
           have HC168_0 := zA hl168_0
           clear hi168_0 hl168_0
           replace p168 := eq_true p168
           replace q168 := eq_true q168
           have ea_ := Option.some.inj (hx167_0.symm.trans hx168_0)
           injection ea_ with ea_ en_ ec_
           subst ea_
           subst ec_
           clear en_
           have p169 : 0 ≤ (x4_2 : Int) := of_decide_eq_true zq2
           have q169 : x4_2 < ((rd_L1 l0 x3_1).length : Int) := of_decide_eq_true zq2
           obtain ⟨ad169, e169, hx169_0⟩ := Kd.at_int HR168_0.out x4_2 p169 q169
           cases e169
           replace p169 := eq_true p169
           replace q169 := eq_true q169
           go_wp2
           go_roundg k2
           case measure => have := HK1.out; have := HK2.out; omega
           case rel => exact ⟨(wrap64 (x4_2 + 1)), zq4, H', ⟨by have := HK1.out; have := HK2.out; omega⟩, zq8⟩
         ·rw [if_neg c6] at H
          exact absurd H zq12
        ·rw [if_neg c5] at H
         have c5b0 : decide (x4_2 < ((rd_L1 l0 x3_1).length : Int)) = false := decide_eq_false c5
         clear c5
         have H' := zA H
         clear H
         have p167 : 0 ≤ (x3_1 : Int) := of_decide_eq_true zq2
         have q167 : x3_1 < (l0.length : Int) := of_decide_eq_true zq2
         obtain ⟨ad167, A167_0, c167_0, e167, hx167_0, hl167_0, hi167_0⟩ := at_L1 HR0.out x3_1 p167 q167
         cases e167
         have HR167_0 := zA hi167_0
         have HC167_0 := zA hl167_0
         clear hi167_0 hl167_0
         replace p167 := eq_true p167
         replace q167 := eq_true q167
         go_wp2
         go_roundg k2
         case measure => have := HK1.out; have := HK2.out; omega
         case rel => exact ⟨(wrap64 (x3_1 + 1)), zq4, H', ⟨by have := HK1.out; have := HK2.out; omega⟩, zq8⟩
       ·rw [if_neg c4] at H
        exact absurd H zq12
      ·rw [if_neg c3] at H
       exact absurd H zq12
   ·rw [if_neg c2] at H
    have c2b0 : decide (x3_1 < (l0.length : Int)) = false := decide_eq_false c2
    clear c2
    obtain rfl := Option.some.inj H
    go_wp2
    go_ret
    exact ⟨zq4, zq8⟩
def spec_l4fits.j0 : Nat → Int → List (List Int) → Bool → Option (Bool)
 | 0, _, _, _ => none
 | k + 1, x0, x1, x15 => if x15 = true then (some false) else (if (wrap64 (x0 + (x1.length : Int))) > 1000 then (some false) else ((spec_l4plain.f k x1).bind fun t170 => (if t170 = true then ((spec_l4bytes.f k x1).bind fun t171 => (some (decide (t171 ≤ 20000)))) else (some false))))
def spec_l4fits.f (k : Nat) (a0 : Int) (l1 : List (List Int)) : Option (Bool) := if a0 < 0 then (spec_l4fits.j0 k a0 l1 true) else (if a0 > 1000 then (spec_l4fits.j0 k a0 l1 true) else (spec_l4fits.j0 k a0 l1 (decide ((l1.length : Int) < 1))))
theorem spec_l4fits.mono_l : ∀ k, (∀ y0 y1 y2, LeO (spec_l4fits.j0 k y0 y1 y2) (spec_l4fits.j0 (k + 1) y0 y1 y2))
 | 0 => fun _ _ _ r h => by simp [spec_l4fits.j0] at h
 | k + 1 => by
  have ih0 := spec_l4fits.mono_l k
  ·intro y0 y1 y2
   unfold spec_l4fits.j0
   repeat' first
   | (with_reducible exact ih0 _ _ _)
   | (with_reducible exact spec_l4bytes.mono _ _)
   | (with_reducible exact spec_l4plain.mono _ _)
   | (with_reducible exact LeO.refl _)
   | (with_reducible exact LeO.none _)
   | (with_reducible refine LeO.ite ?_ ?_)
   | (with_reducible refine LeO.bind ?_ (fun _ => ?_))
   | exact ih0 _ _ _
   | exact spec_l4bytes.mono _ _
   | exact spec_l4plain.mono _ _
   | exact LeO.none _
   | refine LeO.ite ?_ ?_
   | refine LeO.bind ?_ (fun _ => ?_)
theorem spec_l4fits.mono : ∀ a0 a1 k, LeO (spec_l4fits.f k a0 a1) (spec_l4fits.f (k + 1) a0 a1) := by
 intro a0 a1 k
 have ih0 := spec_l4fits.mono_l k
 unfold spec_l4fits.f
 repeat' first
   | (with_reducible exact ih0 _ _ _)
   | (with_reducible exact spec_l4bytes.mono _ _)
   | (with_reducible exact spec_l4plain.mono _ _)
   | (with_reducible exact LeO.refl _)
   | (with_reducible exact LeO.none _)
   | (with_reducible refine LeO.ite ?_ ?_)
   | (with_reducible refine LeO.bind ?_ (fun _ => ?_))
   | exact ih0 _ _ _
   | exact spec_l4bytes.mono _ _
   | exact spec_l4plain.mono _ _
   | exact LeO.none _
   | refine LeO.ite ?_ ?_
   | refine LeO.bind ?_ (fun _ => ?_)
set_option maxHeartbeats 8000000 in
set_option maxRecDepth 100000 in
theorem spec_l4fits.calls (k : Nat) (a0 : Int) (A1 : Option Addr) (c1 : Nat) (l1 : List (List Int)) (r : Bool) (w : World) (hr1 : Kd.C (Kd.slice 5 (Kd.int .u8)) w A1 l1.length l1) (hc1 : l1.length ≤ c1) (h : spec_l4fits.f k a0 l1 = some r) :
  Calls Tryz.prog 68 #[.int .i64 a0, .slice A1 l1.length c1] w fun e w' => e = .returned (.bool r) ∧ Drawn0 w w' := by
 have HR1 := zA hr1
 have HC1 := zA hc1
 clear hr1 hc1
 have H : (if a0 < 0 then (spec_l4fits.j0 k a0 l1 true) else (if a0 > 1000 then (spec_l4fits.j0 k a0 l1 true) else (spec_l4fits.j0 k a0 l1 (decide ((l1.length : Int) < 1))))) = some r := h
 clear h
 have HC3 := zA H
 clear H
 go_enter Tryz.func68, Tryz.ntmps68
 go_upto_region 1 with (fail)
 go_cut [15] (fun v15 wc => ∃ (kq : Nat) (x15_2 : Bool), v15 = .bool x15_2 ∧ Aside0 (spec_l4fits.j0 kq a0 l1 x15_2 = some r) ∧ Aside0 (kq ≤ k) ∧ Drawn0 w wc)
 case first =>
  have H := HC3.out
  clear HC3
  by_cases c4 : a0 < 0
  ·rw [if_pos c4] at H
   have c4b0 : decide (a0 < 0) = true := decide_eq_true c4
   clear c4
   (first | rw [c4b0] | (simp only [i64_w, i32_w]; rw [c4b0]) | skip)
   have H' := zA H
   clear H
   go_wp2
   go_meet
   case rel => exact ⟨_, (true), zq4, H', ⟨by first | omega | exact Nat.le_refl _⟩, zq8⟩
  ·rw [if_neg c4] at H
   have c4b0 : decide (a0 < 0) = false := decide_eq_false c4
   clear c4
   (first | rw [c4b0] | (simp only [i64_w, i32_w]; rw [c4b0]) | skip)
   by_cases c5 : a0 > 1000
   ·rw [if_pos c5] at H
    have c5b0 : decide (1000 < a0) = true := decide_eq_true c5
    clear c5
    have H' := zA H
    clear H
    go_wp2
    go_meet
    case rel => exact ⟨_, (true), zq4, H', ⟨by first | omega | exact Nat.le_refl _⟩, zq8⟩
   ·rw [if_neg c5] at H
    have c5b0 : decide (1000 < a0) = false := decide_eq_false c5
    clear c5
    have H' := zA H
    clear H
    go_wp2
    go_meet
    case rel => exact ⟨_, (decide ((l1.length : Int) < 1)), zq4, H', ⟨by first | omega | exact Nat.le_refl _⟩, zq8⟩
 case rest =>
  clear HC3
  try clear c1
  try clear p2
  try clear c4
  try clear c4b0
  try clear c5
  try clear c5b0
  obtain ⟨kq, x15_2, rfl, HA, HJ2, ⟨mc2, rfl⟩⟩ := hcut
  cases kq with
  | zero => exact absurd HA.out (by simp [spec_l4fits.j0])
  | succ kj2 =>
   have H := HA.out
   clear HA
   simp only [spec_l4fits.j0] at H
   by_cases c6 : x15_2 = true
   ·subst c6
    have H1 : (some false) = some r := by rw [if_pos rfl] at H; exact H
    clear H
    have H := H1
    clear H1
    obtain rfl := Option.some.inj H
    go_wp2
    go_ret
    exact ⟨zq4, zq8⟩
   ·replace c6 := Bool.eq_false_iff.mpr c6
    subst c6
    have H1 : (if (wrap64 (a0 + (l1.length : Int))) > 1000 then (some false) else ((spec_l4plain.f kj2 l1).bind fun t170 => (if t170 = true then ((spec_l4bytes.f kj2 l1).bind fun t171 => (some (decide (t171 ≤ 20000)))) else (some false)))) = some r := by rw [if_neg (show ¬ (false = true) by decide)] at H; exact H
    clear H
    have H := H1
    clear H1
    by_cases c7 : (wrap64 (a0 + (l1.length : Int))) > 1000
    ·rw [if_pos c7] at H
     have c7b0 : decide (1000 < (wrap64 (a0 + (l1.length : Int)))) = true := decide_eq_true c7
     clear c7
     obtain rfl := Option.some.inj H
     go_wp2
     go_ret
     exact ⟨zq4, zq8⟩
    ·rw [if_neg c7] at H
     have c7b0 : decide (1000 < (wrap64 (a0 + (l1.length : Int)))) = false := decide_eq_false c7
     clear c7
     replace H := Option.bind_eq_some_iff.mp H
     obtain ⟨t170, A80, H⟩ := H
     replace H : (if t170 = true then ((spec_l4bytes.f kj2 l1).bind fun t171 => (some (decide (t171 ≤ 20000)))) else (some false)) = some r := H
     have A8 := zA A80
     clear A80
     by_cases c9 : t170 = true
     ·subst c9
      have H1 : ((spec_l4bytes.f kj2 l1).bind fun t171 => (some (decide (t171 ≤ 20000)))) = some r := by rw [if_pos rfl] at H; exact H
      clear H
      have H := H1
      clear H1
      replace H := Option.bind_eq_some_iff.mp H
      obtain ⟨t171, A100, H⟩ := H
      replace H : (some (decide (t171 ≤ 20000))) = some r := H
      have A10 := zA A100
      clear A100
      obtain rfl := Option.some.inj H
      go_wp2_with (first | (go_at_call 48; (with_reducible refine (spec_l4plain.calls kj2 _ _ l1 true _ ?side1 ?side2 A8.out).mono ?_); (case side1 => repeat (first | exact HR1.out | (with_reducible refine Kd.C_alloc ?_ _) | (with_reducible refine Kd.C_drewN ?_ _) | (with_reducible refine Kd.C_drew ?_))); (case side2 => exact HC1.out); rintro e w' ⟨rfl, ⟨nd, rfl⟩⟩) | ((with_reducible refine gate_callee (f := 24) rfl ?_); refine goesL_ (some 27) rfl rfl Tryz.func24 zq5 rfl #[.slice A1 l1.length c1] rfl zq6 ?_; (with_reducible refine (spec_l4bytes.calls kj2 _ _ l1 t171 _ ?side1 ?side2 A10.out).mono ?_); (case side1 => repeat (first | exact HR1.out | (with_reducible refine Kd.C_alloc ?_ _) | (with_reducible refine Kd.C_drewN ?_ _) | (with_reducible refine Kd.C_drew ?_))); (case side2 => exact HC1.out); rintro e w' ⟨rfl, ⟨nd, rfl⟩⟩; refine ⟨_, rfl, ?_⟩))
      go_ret
      exact ⟨zq4, zq8⟩
     ·replace c9 := Bool.eq_false_iff.mpr c9
      subst c9
      have H1 : (some false) = some r := by rw [if_neg (show ¬ (false = true) by decide)] at H; exact H
      clear H
      have H := H1
      clear H1
      obtain rfl := Option.some.inj H
      go_wp2_with (first | (go_at_call 48; (with_reducible refine (spec_l4plain.calls kj2 _ _ l1 false _ ?side1 ?side2 A8.out).mono ?_); (case side1 => repeat (first | exact HR1.out | (with_reducible refine Kd.C_alloc ?_ _) | (with_reducible refine Kd.C_drewN ?_ _) | (with_reducible refine Kd.C_drew ?_))); (case side2 => exact HC1.out); rintro e w' ⟨rfl, ⟨nd, rfl⟩⟩))
      go_ret
      exact ⟨zq4, zq8⟩
def spec_l4copy.l0 : Nat → List (List Int) → List (List Int) → Int → Option ((List (List Int)))
 | 0, _, _, _ => none
 | k + 1, x0, x3, x4 => if x4 < (x0.length : Int) then (if 0 ≤ x4 then (if ([] : List Int).length + (rd_L1 x0 x4).length < 140737488355328 then (if x3.length < 5864062014805 then (spec_l4copy.l0 k x0 (x3 ++ [(([] : List Int) ++ (rd_L1 x0 x4))]) (wrap64 (x4 + 1))) else (none)) else (none)) else (none)) else (some x3)
def spec_l4copy.f (k : Nat) (l0 : List (List Int)) : Option ((List (List Int))) := spec_l4copy.l0 k l0 ([] : List (List Int)) 0
theorem spec_l4copy.mono_l : ∀ k, (∀ y0 y1 y2, LeO (spec_l4copy.l0 k y0 y1 y2) (spec_l4copy.l0 (k + 1) y0 y1 y2))
 | 0 => fun _ _ _ r h => by simp [spec_l4copy.l0] at h
 | k + 1 => by
  have ih0 := spec_l4copy.mono_l k
  ·intro y0 y1 y2
   unfold spec_l4copy.l0
   repeat' first
   | (with_reducible exact ih0 _ _ _)
   | (with_reducible exact LeO.refl _)
   | (with_reducible exact LeO.none _)
   | (with_reducible refine LeO.ite ?_ ?_)
   | (with_reducible refine LeO.bind ?_ (fun _ => ?_))
   | exact ih0 _ _ _
   | exact LeO.none _
   | refine LeO.ite ?_ ?_
   | refine LeO.bind ?_ (fun _ => ?_)
theorem spec_l4copy.mono : ∀ a0 k, LeO (spec_l4copy.f k a0) (spec_l4copy.f (k + 1) a0) := by
 intro a0 k
 have ih0 := spec_l4copy.mono_l k
 unfold spec_l4copy.f
 repeat' first
   | (with_reducible exact ih0 _ _ _)
   | (with_reducible exact LeO.refl _)
   | (with_reducible exact LeO.none _)
   | (with_reducible refine LeO.ite ?_ ?_)
   | (with_reducible refine LeO.bind ?_ (fun _ => ?_))
   | exact ih0 _ _ _
   | exact LeO.none _
   | refine LeO.ite ?_ ?_
   | refine LeO.bind ?_ (fun _ => ?_)
set_option maxHeartbeats 8000000 in
set_option maxRecDepth 100000 in
theorem spec_l4copy.calls (k : Nat) (A0 : Option Addr) (c0 : Nat) (l0 : List (List Int)) (r : List (List Int)) (w : World) (hr0 : Kd.C (Kd.slice 5 (Kd.int .u8)) w A0 l0.length l0) (hc0 : l0.length ≤ c0) (h : spec_l4copy.f k l0 = some r) :
  Calls Tryz.prog 33 #[.slice A0 l0.length c0] w fun e w' => ∃ v0_ : Value, e = .returned (v0_) ∧ Kd.S (Kd.slice 5 (Kd.int .u8)) 25 w' w.heap.size (fun _ => True) v0_ r ∧ Below w.heap.size w w' := by
 have HR0 := zA hr0
 have HC0 := zA hc0
 clear hr0 hc0
 have HB := zA (Below.refl w.heap.size w)
 have H : (spec_l4copy.l0 k l0 ([] : List (List Int)) 0) = some r := h
 clear h
 have H' := zA H
 clear H
 go_enter Tryz.func33, Tryz.ntmps33
 go_wp2
 go_loopg [3, 4] k (fun kq v3 v4 w' => ∃ (x3_1 : List (List Int)) (x4_1 : Int), v4 = .int .i64 x4_1 ∧ Aside0 (spec_l4copy.l0 kq l0 x3_1 x4_1 = some r) ∧ Aside0 (kq ≤ k) ∧ Aside0 (Kd.S (Kd.slice 5 (Kd.int .u8)) 25 w' w.heap.size (fun _ => True) v3 x3_1) ∧ Aside0 (Below w.heap.size w w'))
 case atStart => exact ⟨(([] : List (List Int))), (0), zq4, H', ⟨Nat.le_refl _⟩, ⟨zq14⟩, ⟨zq0⟩⟩
 case round =>
  clear H'
  obtain ⟨x3_1, x4_1, rfl, HA, HK1, HO_3, HB⟩ := hrel
  cases gk with
  | zero => exact absurd HA.out (by simp [spec_l4copy.l0])
  | succ k1 =>
   have H := HA.out
   clear HA
   simp only [spec_l4copy.l0] at H
   by_cases c2 : x4_1 < (l0.length : Int)
   ·rw [if_pos c2] at H
    have c2b0 : decide (x4_1 < (l0.length : Int)) = true := decide_eq_true c2
    clear c2
    by_cases c3 : 0 ≤ x4_1
    ·rw [if_pos c3] at H
     have c3b0 : decide (0 ≤ x4_1) = true := decide_eq_true c3
     clear c3
     by_cases c4 : ([] : List Int).length + (rd_L1 l0 x4_1).length < 140737488355328
     ·rw [if_pos c4] at H
      have LMc4 := zA c4
      clear c4
      obtain ⟨y173, hy173⟩ : ∃ y_ : List Int, y_ = (([] : List Int) ++ (rd_L1 l0 x4_1)) := ⟨_, rfl⟩
      replace H : (if x3_1.length < 5864062014805 then (spec_l4copy.l0 k1 l0 (x3_1 ++ [y173]) (wrap64 (x4_1 + 1))) else (none)) = some r := by first | (rw [hy173]; with_reducible exact H) | (have H2_ := (Option.bind_some _ _).symm.trans H; rw [hy173]; with_reducible exact H2_) | (have H2_ := (Option.bind_some _ _).symm.trans H; with_reducible exact H2_) | with_reducible exact H | (rw [hy173]; exact H) | exact H
      have Ny173 := zA hy173
      clear hy173
      by_cases c5 : x3_1.length < 5864062014805
      ·rw [if_pos c5] at H
       have LMc5 := zA c5
       clear c5
       obtain ⟨y176, hy176⟩ : ∃ y_ : List (List Int), y_ = (x3_1 ++ [y173]) := ⟨_, rfl⟩
       replace H : (spec_l4copy.l0 k1 l0 y176 (wrap64 (x4_1 + 1))) = some r := by first | (rw [hy176]; with_reducible exact H) | (have H2_ := (Option.bind_some _ _).symm.trans H; rw [hy176]; with_reducible exact H2_) | (have H2_ := (Option.bind_some _ _).symm.trans H; with_reducible exact H2_) | with_reducible exact H | (rw [hy176]; exact H) | exact H
       have Ny176 := zA hy176
       clear hy176
       have H' := zA H
       clear H
       have p172 : 0 ≤ (x4_1 : Int) := of_decide_eq_true zq2
       have q172 : x4_1 < (l0.length : Int) := of_decide_eq_true zq2
       obtain ⟨ad172, A172_0, c172_0, e172, hx172_0, hl172_0, hi172_0⟩ := at_L1 HR0.out x4_1 p172 q172
       cases e172
       replace hx172_0 := (HB.out.cell (World.block_lt_of_cell? w _ hx172_0)).trans hx172_0
       have HR172_0 := zA hi172_0
       have HC172_0 := zA hl172_0
       clear hi172_0 hl172_0
       replace p172 := eq_true p172
       replace q172 := eq_true q172
       go_wp2_with (first | ((with_reducible refine gate_builtin (b := .append) (xs := #[.tmp 12, .tmp 16]) rfl ?_); at_builtin; refine Kd.R_append_rows (Kd.int .u8) (w0 := w) w.heap.size rfl (.tmp 12) (.tmp 16) 25 5 (.int .u8 0) 1 rfl Tryz.underlying25 info5 rfl zq15 zq1 (.slice none 0 0) ([] : List Int) (rd_L1 l0 x4_1) _ _ _ (fun _ => True) (fun _ => False) rfl rfl ?aO ?aR (fun _ _ h => h) (fun _ h => h.elim) ?aF ?aB ?aS ?aL ?_; (case aR => repeat (first | exact (Kd.C_below HR172_0.out HB.out) | (with_reducible refine Kd.C_alloc ?_ _) | (with_reducible refine Kd.C_drewN ?_ _) | (with_reducible refine Kd.C_drew ?_))); (case aB => exact zq0); (case aF => exact (fun _ _ => trivial)); (case aO => exact ((Kd.R_nil _ _ _ _ (fun _ => True)))); (case aS => exact (below_size zq0)); (case aL => have := LMc4.out; omega); intro v174 w6 ho hb hg hat; rw [← Ny173.out] at ho; have n0_ := zA (Kd.S_after (Kd.S_apart_nil zq24) hg hat); have n1_ := zA (hb); have n2_ := zA (ho); clear HO_3; clear HB; have HO_3 := n0_; have HB := n1_; have HO175 := n2_; clear n0_ n1_ n2_; clear ho hb hg hat; obtain ⟨Ao8, co8, eo8⟩ := Kd.R_slice HO175.out; subst eo8) | ((with_reducible refine gate_builtin (b := .append) (xs := #[.tmp 18, .tmp 20]) rfl ?_); at_builtin; refine Kd.S_append (Kd.slice 5 (Kd.int .u8)) (w0 := w) w.heap.size rfl (.tmp 18) (.tmp 20) 22 25 (.slice none 0 0) 24 rfl Tryz.underlying22 info25 rfl zq15 zq1 u3 x3_1 y173 [.slice Ao8 y173.length co8] (fun _ => True) (fun k_ => some k_ = (.slice Ao8 y173.length co8 : Value).ownBlock) rfl rfl ?aP (fun k_ hk_ => ((Kd.R_mono (ok' := fun k_ => ((fun _ => True)) k_ ∧ some k_ ≠ (u3 : Value).ownBlock) (Kd.R_apart' (HO175.out) (Kd.S_typed HO_3.out) zq15) (fun k_ hk => ⟨trivial, hk.2⟩))).1 k_ hk_.symm) ?aF ?aO ?aB ?aS ?aL ?_; (case aP => exact Kd.M_row (Kd.R_mono (Kd.R_tight rfl (Kd.R_mono (ok' := fun k_ => ((fun _ => True)) k_ ∧ some k_ ≠ (u3 : Value).ownBlock) (Kd.R_apart' (HO175.out) (Kd.S_typed HO_3.out) zq15) (fun k_ hk => ⟨trivial, hk.2⟩))) (fun _ h_ => h_))); (case aB => exact zq0); (case aF => exact (fun _ _ => trivial)); (case aO => exact (by (with_reducible repeat (first | apply Kd.S_alloc | apply Kd.S_drewN | apply Kd.S_drew)); exact Kd.S_mono HO_3.out (fun k_ hk => ⟨trivial, fun e_ => hk.2 e_⟩))); (case aS => exact (below_size zq0)); (case aL => have := LMc5.out; omega); intro v177 w7 ho hb hg hat; rw [← Ny176.out] at ho; have n0_ := zA (hb); have n1_ := zA (ho); clear HB; clear HO_3; clear HO175; have HB := n0_; have HO178 := n1_; clear n0_ n1_; clear ho hb hg hat))
       go_roundg k1
       case measure => have := HK1.out; omega
       case rel => exact ⟨(y176), (wrap64 (x4_1 + 1)), zq4, H', ⟨zq33⟩, ⟨by (with_reducible repeat (first | apply Kd.S_alloc | apply Kd.S_drewN | apply Kd.S_drew)); exact HO178.out⟩, ⟨zq0⟩⟩
      ·rw [if_neg c5] at H
       exact absurd H zq12
     ·rw [if_neg c4] at H
      exact absurd H zq12
    ·rw [if_neg c3] at H
     exact absurd H zq12
   ·rw [if_neg c2] at H
    have c2b0 : decide (x4_1 < (l0.length : Int)) = false := decide_eq_false c2
    clear c2
    obtain rfl := Option.some.inj H
    go_wp2
    go_ret
    exact ⟨_, zq9, zq24, zq0⟩
end Go.Proofs.YtmgmdnmfalepkaaGreat.L
