/- Parts of the proof (see the row's own text): POrdL, PTri, Ty, Lby, HelpB, HelpBB, Lfit. -/
import Derived.Test.YtmgmdnmfalepkaaG00
import Derived.Test.YtmgmdnmfalepkaaG2
import Derived.Test.YtmgmdnmfalepkaaG5
import Derived.Test.YtmgmdnmfalepkaaG4
namespace Go.Proofs.Ytmgmdnmfalepkaa.POrd
open Go.RowKit Go.Proofs.YtmgmdnmfalepkaaW.PrintWords Go.Proofs.Ytmgmdnmfalepkaa.PKit Go.Proofs.Ytmgmdnmfalepkaa.L
structure Inv (x y out : List Int) (i j : Nat) : Prop where
 asc : Asc out
 mem : ∀ v, v ∈ out ↔ v ∈ x.take i ∨ v ∈ y.take j
 hx : ∀ v ∈ out, ∀ k (h : k < x.length), i ≤ k → v ≤ x[k]
 hy : ∀ v ∈ out, ∀ k (h : k < y.length), j ≤ k → v ≤ y[k]
def put (out : List Int) (v : Int) : List Int := if out.getLast? = some v then out else out ++ [v]
theorem mem_put (out : List Int) (v z : Int) : z ∈ put out v ↔ z ∈ out ∨ z = v := by
 unfold put
 split
 ·rename_i h
  have := List.mem_of_getLast? h
  constructor
  ·exact .inl
  ·rintro (h | h)
   ·exact h
   ·subst h; exact this
 ·simp
theorem asc_put {out : List Int} {v : Int} (h : Asc out) (hle : ∀ u ∈ out, u ≤ v) : Asc (put out v) := by
 unfold put
 split
 ·exact h
 ·rename_i hne
  rw [Asc, List.pairwise_append]
  refine ⟨h, zq14, fun u hu w hw => ?_⟩
  rw [List.mem_singleton] at hw
  subst hw
  have h1 := hle u hu
  rcases Int.lt_or_eq_of_le h1 with h2 | h2
  ·exact h2
  ·exfalso
   subst h2
   apply hne
   obtain ⟨q, hq⟩ : ∃ q, out.getLast? = some q := by
    cases ho : out with
    | nil => rw [ho] at hu; simp at hu
    | cons a b => exact ⟨_, List.getLast?_eq_some_getLast zq14⟩
   have hqm := List.mem_of_getLast? hq
   have hqle := hle q hqm
   have huq : u ≤ q := by
    obtain ⟨k, hk, rfl⟩ := List.getElem_of_mem hu
    have hql : q = out[out.length - 1]'zq3 := by
     have := hq
     rw [List.getLast?_eq_getElem?, List.getElem?_eq_getElem zq3] at this
     injection this with this
     exact this.symm
    rw [hql]
    by_cases e : k = out.length - 1
    ·subst e; exact Int.le_refl _
    ·exact Int.le_of_lt (asc_get h zq3 zq3)
   have : u = q := by omega
   rw [this]
   exact hq
theorem mem_take_succ (x : List Int) (i : Nat) (h : i < x.length) (v : Int) : v ∈ x.take (i + 1) ↔ v ∈ x.take i ∨ v = x[i] := by
 rw [List.take_succ_eq_append_getElem h, List.mem_append, List.mem_singleton]
theorem Inv.left {x y out : List Int} {i j : Nat} (h : Inv x y out i j) (hx : Asc x) (hi : i < x.length) (hle : ∀ k (hk : k < y.length), j ≤ k → x[i] ≤ y[k]) : Inv x y (put out x[i]) (i + 1) j where
 asc := asc_put h.asc (fun u hu => h.hx u hu i hi (Nat.le_refl _))
 mem := fun v => by
  rw [mem_put, h.mem, mem_take_succ x i hi]
  constructor
  ·rintro ((h | h) | h)
   ·exact .inl (.inl h)
   ·exact .inr h
   ·exact .inl (.inr h)
  ·rintro ((h | h) | h)
   ·exact .inl (.inl h)
   ·exact .inr h
   ·exact .inl (.inr h)
 hx := fun v hv k hk hik => by
  rcases (mem_put _ _ _).1 hv with hv | rfl
  ·exact h.hx v hv k hk zq3
  ·exact Int.le_of_lt (asc_get hx zq3 hk)
 hy := fun v hv k hk hjk => by
  rcases (mem_put _ _ _).1 hv with hv | rfl
  ·exact h.hy v hv k hk hjk
  ·exact hle k hk hjk
theorem Inv.right {x y out : List Int} {i j : Nat} (h : Inv x y out i j) (hy : Asc y) (hj : j < y.length) (hle : ∀ k (hk : k < x.length), i ≤ k → y[j] ≤ x[k]) : Inv x y (put out y[j]) i (j + 1) where
 asc := asc_put h.asc (fun u hu => h.hy u hu j hj (Nat.le_refl _))
 mem := fun v => by
  rw [mem_put, h.mem, mem_take_succ y j hj]
  constructor
  ·rintro ((h | h) | h)
   ·exact .inl h
   ·exact .inr (.inl h)
   ·exact .inr (.inr h)
  ·rintro (h | h | h)
   ·exact .inl (.inl h)
   ·exact .inl (.inr h)
   ·exact .inr h
 hx := fun v hv k hk hik => by
  rcases (mem_put _ _ _).1 hv with hv | rfl
  ·exact h.hx v hv k hk hik
  ·exact hle k hk hik
 hy := fun v hv k hk hjk => by
  rcases (mem_put _ _ _).1 hv with hv | rfl
  ·exact h.hy v hv k hk zq3
  ·exact Int.le_of_lt (asc_get hy zq3 hk)
theorem put_len (out : List Int) (v : Int) : (put out v).length ≤ out.length + 1 := by
 unfold put
 split <;> simp
theorem last_test (out : List Int) (v : Int) (hl : out.length < 4611686018427387904) (hne : ¬ (out.length : Int) = 0) : 0 ≤ wrap64 ((out.length : Int) - 1) ∧ wrap64 ((out.length : Int) - 1) < (out.length : Int) ∧ (rd out (wrap64 ((out.length : Int) - 1)) = v ↔ out.getLast? = some v) := by
 have e : wrap64 ((out.length : Int) - 1) = ((out.length - 1 : Nat) : Int) := by rw [wrap_in zq3]; omega
 rw [e]
 refine ⟨zq3, zq3, ?_⟩
 rw [rd_get out _ zq3, List.getLast?_eq_getElem?, List.getElem?_eq_getElem zq3]
 simp
theorem step_left (x y out : List Int) (i j : Nat) (hi : i < x.length) (hx : x.length < 4611686018427387904) (ho : out.length < 17592186044416) (k : Nat) :
  spec_l3order.j2 (k + 1) x y out i j true = spec_l3order.l0 k x y (put out x[i]) ((i + 1 : Nat) : Int) j := by
 simp only [spec_l3order.j2]
 rw [if_pos trivial, if_pos zq3, if_pos zq3, wrap_succ i zq3, rd_get x i hi]
 by_cases h0 : (out.length : Int) = 0
 ·have : out = [] := List.length_eq_zero_iff.1 zq3
  subst this
  rw [if_pos h0, if_pos zq14]
  simp [put]
 ·obtain ⟨h1, h2, h3⟩ := last_test out x[i] zq3 h0
  rw [if_neg h0, if_pos h1, if_pos h2]
  by_cases e : out.getLast? = some x[i]
  ·rw [if_pos (h3.2 e)]
   simp only [put, e, if_true]
  ·rw [if_neg (fun h => e (h3.1 h)), if_pos ho]
   simp only [put, e, if_false]
theorem step_right (x y out : List Int) (i j : Nat) (hj : j < y.length) (hy : y.length < 4611686018427387904) (ho : out.length < 17592186044416) (k : Nat) :
  spec_l3order.j2 (k + 1) x y out i j false = spec_l3order.l0 k x y (put out y[j]) i ((j + 1 : Nat) : Int) := by
 simp only [spec_l3order.j2]
 rw [if_neg zq14, if_pos zq3, if_pos zq3, wrap_succ j zq3, rd_get y j hj]
 by_cases h0 : (out.length : Int) = 0
 ·have : out = [] := List.length_eq_zero_iff.1 zq3
  subst this
  rw [if_pos h0, if_pos zq14]
  simp [put]
 ·obtain ⟨h1, h2, h3⟩ := last_test out y[j] zq3 h0
  rw [if_neg h0, if_pos h1, if_pos h2]
  by_cases e : out.getLast? = some y[j]
  ·rw [if_pos (h3.2 e)]
   simp only [put, e, if_true]
  ·rw [if_neg (fun h => e (h3.1 h)), if_pos ho]
   simp only [put, e, if_false]
theorem merge_ev (x y : List Int) (hx : Asc x) (hy : Asc y) (lx : x.length + y.length < 17592186044416) : ∀ (d i j : Nat) (out : List Int), (x.length - i) + (y.length - j) = d → i ≤ x.length → j ≤ y.length → out.length ≤ i + j → Inv x y out i j →
  ∃ r, Ev (fun k => spec_l3order.l0 k x y out i j) r ∧ Asc r ∧ (∀ v, v ∈ r ↔ v ∈ x ∨ v ∈ y) := by
 intro d
 induction d with
 | zero =>
  intro i j out hd hi hj ho h
  refine ⟨out, ?_, h.asc, fun v => ?_⟩
  ·refine Ev.step (f := fun k => spec_l3order.j1 k x y out i j false) (fun k => ?_) (Ev.step (f := fun _ => some out) (fun k => ?_) (Ev.now _))
   ·simp only [spec_l3order.l0]
    rw [if_neg zq3]
    congr 1
    exact decide_eq_false zq3
   ·simp only [spec_l3order.j1]
    rw [if_neg zq14]
  ·rw [h.mem, List.take_of_length_le zq3, List.take_of_length_le zq3]
 | succ d ih =>
  intro i j out hd hi hj ho h
  have hl : ∀ {r}, Ev (fun k => spec_l3order.j1 k x y out i j true) r → Ev (fun k => spec_l3order.l0 k x y out i j) r := fun {r} he => Ev.step (fun k => by
   simp only [spec_l3order.l0]
   by_cases hc : (i : Int) < (x.length : Int)
   ·rw [if_pos hc]
   ·rw [if_neg hc]
    congr 1
    exact decide_eq_true zq3) he
  by_cases hjy : j < y.length
  ·by_cases hix : i < x.length
   ·by_cases hle : x[i] ≤ y[j]
    ·obtain ⟨r, hr, hr2⟩ := ih (i + 1) j (put out x[i]) zq3 zq3 hj (by have := put_len out x[i]; omega) (h.left hx hix (fun k hk hjk => by
      by_cases e : j = k
      ·subst e; exact hle
      ·have := asc_get hy (show j < k by omega) hk; omega))
     refine ⟨r, hl (Ev.step (f := fun k => spec_l3order.j2 k x y out i j true) (fun k => ?_) (Ev.step (fun k => step_left x y out i j hix zq3 zq3 k) hr)), hr2⟩
     simp only [spec_l3order.j1]
     rw [if_pos trivial, if_neg zq3, if_pos zq3, if_pos zq3, if_pos zq3, if_pos zq3, rd_get x i hix, rd_get y j hjy, decide_eq_true hle]
    ·obtain ⟨r, hr, hr2⟩ := ih i (j + 1) (put out y[j]) zq3 hi zq3 (by have := put_len out y[j]; omega) (h.right hy hjy (fun k hk hik => by
      by_cases e : i = k
      ·subst e; omega
      ·have := asc_get hx (show i < k by omega) hk; omega))
     refine ⟨r, hl (Ev.step (f := fun k => spec_l3order.j2 k x y out i j false) (fun k => ?_) (Ev.step (fun k => step_right x y out i j hjy zq3 zq3 k) hr)), hr2⟩
     simp only [spec_l3order.j1]
     rw [if_pos trivial, if_neg zq3, if_pos zq3, if_pos zq3, if_pos zq3, if_pos zq3, rd_get x i hix, rd_get y j hjy, decide_eq_false hle]
   ·obtain ⟨r, hr, hr2⟩ := ih i (j + 1) (put out y[j]) zq3 hi zq3 (by have := put_len out y[j]; omega) (h.right hy hjy (fun k hk hik => by omega))
    refine ⟨r, hl (Ev.step (f := fun k => spec_l3order.j2 k x y out i j false) (fun k => ?_) (Ev.step (fun k => step_right x y out i j hjy zq3 zq3 k) hr)), hr2⟩
    simp only [spec_l3order.j1]
    rw [if_pos trivial, if_neg zq3, if_neg zq3]
  ·obtain ⟨r, hr, hr2⟩ := ih (i + 1) j (put out (x[i]'zq3)) zq3 zq3 hj (by have := put_len out (x[i]'zq3); omega) (h.left hx zq3 (fun k hk hjk => by omega))
   refine ⟨r, hl (Ev.step (f := fun k => spec_l3order.j2 k x y out i j true) (fun k => ?_) (Ev.step (fun k => step_left x y out i j zq3 zq3 zq3 k) hr)), hr2⟩
   simp only [spec_l3order.j1]
   rw [if_pos trivial, if_pos zq3]
theorem order_ev : ∀ (n : Nat) (l : List Int), l.length ≤ n → l.length < 17592186044416 → Ev (fun k => spec_l3order.f k l) (ord l) := by
 intro n
 induction n with
 | zero =>
  intro l hl _
  have : l = [] := List.length_eq_zero_iff.1 zq3
  subst this
  exact Ev.step (f := fun _ => some []) (fun k => by simp [spec_l3order.f]) (Ev.now _)
 | succ n ih =>
  intro l hl hb
  by_cases h2 : (l.length : Int) < 2
  ·have e : l = ord l := ord_unique (by
    match l, h2 with
    | [], _ => simp
    | [a], _ => simp
    | a :: b :: r, h => simp at h; omega) (fun _ => Iff.rfl)
   refine Ev.step (f := fun _ => some (ord l)) (fun k => ?_) (Ev.now _)
   simp only [spec_l3order.f]
   rw [if_pos h2, if_pos (by simpa using hb), List.nil_append, ← e]
  ·have hw : wrap64 ((l.length : Int) / 2) = ((l.length / 2 : Nat) : Int) := by rw [wrap_in zq3]; omega
   have hm1 : (l.take (l.length / 2)).length = l.length / 2 := by rw [List.length_take]; omega
   have hm2 : (l.drop (l.length / 2)).length = l.length - l.length / 2 := List.length_drop ..
   have h1 := ih (l.take (l.length / 2)) zq3 zq3
   have h3 := ih (l.drop (l.length / 2)) zq3 zq3
   have o1 := ord_len (l.take (l.length / 2))
   have o2 := ord_len (l.drop (l.length / 2))
   obtain ⟨r, hr, ha, hmem⟩ := merge_ev (ord (l.take (l.length / 2))) (ord (l.drop (l.length / 2))) (asc_ord _) (asc_ord _) zq3 _ 0 0 [] rfl (Nat.zero_le _) (Nat.zero_le _) zq14
    ⟨zq14, zq14, zq14, zq14⟩
   have e : r = ord l := ord_unique ha (fun v => by
    rw [hmem, mem_ord, mem_ord, ← List.mem_append, List.take_append_drop])
   rw [e] at hr
   refine Ev.step (f := fun k => (spec_l3order.f k (l.take (l.length / 2))).bind fun t109 => ((spec_l3order.f k (l.drop (l.length / 2))).bind fun t113 => (spec_l3order.l0 k t109 t113 ([] : List Int) 0 0))) (fun k => ?_) (Ev.bind h1 (Ev.bind h3 hr))
   simp only [spec_l3order.f]
   rw [if_neg h2, hw, if_pos zq3, if_pos zq3]
   simp only [Int.toNat_natCast]
end Go.Proofs.Ytmgmdnmfalepkaa.POrd

namespace Go.Proofs.Ytmgmdnmfalepkaa.PTri
open Go.RowKit Go.Proofs.YtmgmdnmfalepkaaW.PrintWords Go.Proofs.Ytmgmdnmfalepkaa.PKit Go.Proofs.Ytmgmdnmfalepkaa.POrd Go.Proofs.Ytmgmdnmfalepkaa.L
set_option linter.unusedVariables false
def upto {α : Type} (f : Nat → α) (k : Nat) : List α := (List.range k).map f
theorem upto_succ {α : Type} (f : Nat → α) (k : Nat) : upto f (k + 1) = upto f k ++ [f k] := by simp [upto, List.range_succ]
theorem upto_length {α : Type} (f : Nat → α) (k : Nat) : (upto f k).length = k := by simp [upto]
def tri (l : List Int) (i : Nat) : Int := l.getD i 0 * 65536 + l.getD (i + 1) 0 * 256 + l.getD (i + 2) 0
def tris (l : List Int) : List Int := upto (tri l) (l.length - 2)
theorem tris_length (l : List Int) : (tris l).length = l.length - 2 := upto_length _ _
theorem getD_bd (l : List Int) (hb : ∀ x ∈ l, 0 ≤ x ∧ x ≤ 255) (i : Nat) : 0 ≤ l.getD i 0 ∧ l.getD i 0 ≤ 255 := by
 by_cases h : i < l.length
 ·have : l.getD i 0 = l[i] := by simp [List.getD, List.getElem?_eq_getElem h]
  rw [this]
  exact hb _ (List.getElem_mem h)
 ·have : l.getD i 0 = 0 := by simp [List.getD, List.getElem?_eq_none (Nat.le_of_not_lt h)]
  omega
theorem tri_bd (l : List Int) (hb : ∀ x ∈ l, 0 ≤ x ∧ x ≤ 255) (i : Nat) : 0 ≤ tri l i ∧ tri l i ≤ 16777215 := by
 have h0 := getD_bd l hb i
 have h1 := getD_bd l hb (i + 1)
 have h2 := getD_bd l hb (i + 2)
 unfold tri
 omega
theorem tris_bd (l : List Int) (hb : ∀ x ∈ l, 0 ≤ x ∧ x ≤ 255) : ∀ x ∈ tris l, 0 ≤ x ∧ x ≤ 16777215 := by
 intro x hx
 unfold tris upto at hx
 obtain ⟨i, _, rfl⟩ := List.mem_map.1 hx
 exact tri_bd l hb i
theorem spec_ev (l : List Int) (hb : ∀ x ∈ l, 0 ≤ x ∧ x ≤ 255) (hl : l.length ≤ 1048576) : Ev (fun k => spec_Trigrams.f k l) (ord (tris l)) := by
 have key : ∀ (d i : Nat), i + d = l.length - 2 → Ev (fun k => spec_Trigrams.l0 k l (upto (tri l) i) (i : Int)) (ord (tris l)) := by
  intro d
  induction d with
  | zero =>
   intro i hd
   have e : i = l.length - 2 := by omega
   subst e
   refine Ev.step (f := fun k => (spec_l3order.f k (upto (tri l) (l.length - 2))).bind fun t => some t) (fun k => ?_) (Ev.bind (order_ev _ _ (Nat.le_refl _) (by rw [upto_length]; omega)) (Ev.now _))
   simp only [spec_Trigrams.l0]
   rw [wrap_in (x := (((l.length - 2 : Nat) : Int)) + 2) zq3]
   by_cases h2 : l.length ≤ 1
   ·rw [if_neg zq3]
   ·rw [if_neg zq3]
  | succ d ih =>
   intro i hd
   have h0 := getD_bd l hb i
   have h1 := getD_bd l hb (i + 1)
   have h2 := getD_bd l hb (i + 2)
   refine Ev.step (fun k => ?_) (ih (i + 1) zq3)
   simp only [spec_Trigrams.l0]
   have e0 : rd l (i : Int) = l.getD i 0 := rfl
   have e1 : rd l ((i + 1 : Nat) : Int) = l.getD (i + 1) 0 := rfl
   have e2 : rd l ((i + 2 : Nat) : Int) = l.getD (i + 2) 0 := rfl
   rw [wrap_in (x := (i : Int) + 2) zq3, wrap_in (x := (i : Int) + 1) zq3]
   rw [if_pos zq3, if_pos zq3, if_pos zq3, if_pos zq3, if_pos zq3, if_pos zq3]
   rw [show (i : Int) + 1 = ((i + 1 : Nat) : Int) by omega, show (i : Int) + 2 = ((i + 2 : Nat) : Int) by omega, e0, e1, e2]
   simp only [spec_l3num.f]
   rw [wrap_in (x := l.getD i 0) zq3, wrap_in (x := l.getD (i + 1) 0) zq3, wrap_in (x := l.getD (i + 2) 0) zq3]
   rw [wrap_in (x := l.getD i 0 * 65536) zq3, wrap_in (x := l.getD (i + 1) 0 * 256) zq3, wrap_in (x := l.getD i 0 * 65536 + l.getD (i + 1) 0 * 256) zq3, wrap_in (x := l.getD i 0 * 65536 + l.getD (i + 1) 0 * 256 + l.getD (i + 2) 0) zq3]
   rw [Option.bind_some, if_pos (by rw [upto_length]; omega), upto_succ]
   rfl
 have h := key (l.length - 2) 0 zq3
 exact Ev.congr (fun k => by simp only [spec_Trigrams.f]; rfl) h
end Go.Proofs.Ytmgmdnmfalepkaa.PTri

namespace Go.Proofs.Ytmgmdnmfalepkaa.Ty
open Go.RowKit Go.Proofs.YtmgmdnmfalepkaaW.PrintWords Go.Proofs.YtmgmdnmfalepkaaW.PrintMore Go.Proofs.Ytmgmdnmfalepkaa.Kit Go.Proofs.Ytmgmdnmfalepkaa.PKit
set_option linter.unusedVariables false
structure Ty (α : Type) where
 K : World → α → Value → Prop
 M : World → Nat → (Nat → Prop) → α → Value → Prop
 K_below : ∀ {w w1 : World} {x v}, Below w.heap.size w w1 → K w x v → K w1 x v
 K_of_M : ∀ {w base ok x v}, M w base ok x v → K w x v
 M_mono : ∀ {w base ok ok' x v}, (∀ k, ok k → ok' k) → M w base ok x v → M w base ok' x v
 M_bound : ∀ {w : World} {base ok x v}, M w base ok x v → M w base (fun k => ok k ∧ base ≤ k ∧ k < w.heap.size) x v
 M_move : ∀ {w w1 : World} {base ok x v}, (∀ k, ok k → w1.heap[k]? = w.heap[k]?) → M w base ok x v → M w1 base ok x v
 M_lower : ∀ {w base base' ok x v}, base' ≤ base → M w base ok x v → M w base' ok x v
namespace Ty
variable {α β : Type} {T : Ty α} {w w1 w0 W : World} {base : Nat} {ok ok' S : Nat → Prop} {x : α} {v : Value}
theorem M_step (h : T.M w base ok x v) (hm : ∀ k, ok k → k < w.heap.size → w1.heap[k]? = w.heap[k]?) : T.M w1 base ok x v :=
 T.M_mono (fun _ hk => hk.1) (T.M_move (fun k hk => hm k hk.1 hk.2.2) (T.M_bound h))
theorem M_below (h : T.M w base ok x v) (hb : Below w.heap.size w w1) : T.M w1 base ok x v := M_step h (fun k _ hk => hb.block k hk)
theorem M_kept (h : T.M w base ok x v) (hk : Kept w w1 S) (hne : ∀ k, ok k → ¬ S k) : T.M w1 base ok x v := M_step h (fun k ho hlt => hk.2 k hlt (hne k ho))
theorem M_beyond (h : T.M w W.heap.size ok x v) : T.M w W.heap.size (fun k => W.heap.size ≤ k ∧ k < w.heap.size) x v := T.M_mono (fun _ hk => hk.2) (T.M_bound h)
def sc (enc : α → Value) : Ty α where
 K := fun _ x v => v = enc x
 M := fun _ _ _ x v => v = enc x
 K_below := fun _ h => h
 K_of_M := fun h => h
 M_mono := fun _ h => h
 M_bound := fun h => h
 M_move := fun _ h => h
 M_lower := fun _ h => h
def row (d : Kd α) (e : Nat) : Ty (List α) where
 K := fun w xs v => ∃ A c, v = .slice A xs.length c ∧ xs.length ≤ c ∧ d.C w A xs.length xs
 M := fun w base ok xs v => d.R e w base ok v xs
 K_below := by
  rintro w w1 x v hb ⟨A, c, rfl, hl, hr⟩
  exact ⟨A, c, rfl, hl, Kd.C_below hr hb⟩
 K_of_M := fun h => Kd.R_reads h
 M_mono := fun hok h => Kd.R_mono h hok
 M_bound := fun h => Kd.R_mono (Kd.R_bound h) (fun _ hk => ⟨hk.1, hk.2.1, hk.2.2.1⟩)
 M_move := fun hm h => Kd.R_move h hm
 M_lower := fun hb h => Kd.R_lower h hb
def rows (d : Kd α) (e : Nat) : Ty (List α) where
 K := fun w xs v => ∃ A c, v = .slice A xs.length c ∧ xs.length ≤ c ∧ d.C w A xs.length xs
 M := fun w base ok xs v => Kd.S d e w base ok v xs
 K_below := by
  rintro w w1 x v hb ⟨A, c, rfl, hl, hr⟩
  exact ⟨A, c, rfl, hl, Kd.C_below hr hb⟩
 K_of_M := fun h => Kd.S_reads h
 M_mono := fun hok h => Kd.S_mono h hok
 M_bound := fun h => Kd.S_mono (Kd.S_bound h) (fun _ hk => ⟨hk.1, hk.2.1, hk.2.2.1⟩)
 M_move := fun hm h => Kd.S_move h hm
 M_lower := fun hb h => Kd.S_lower h hb
end Ty
structure Tys (α : Type) where
 K : World → α → List Value → Prop
 M : World → Nat → (Nat → Prop) → α → List Value → Prop
 K_below : ∀ {w w1 : World} {x v}, Below w.heap.size w w1 → K w x v → K w1 x v
 K_of_M : ∀ {w base ok x v}, M w base ok x v → K w x v
 M_mono : ∀ {w base ok ok' x v}, (∀ k, ok k → ok' k) → M w base ok x v → M w base ok' x v
 M_bound : ∀ {w : World} {base ok x v}, M w base ok x v → M w base (fun k => ok k ∧ base ≤ k ∧ k < w.heap.size) x v
 M_move : ∀ {w w1 : World} {base ok x v}, (∀ k, ok k → w1.heap[k]? = w.heap[k]?) → M w base ok x v → M w1 base ok x v
 M_lower : ∀ {w base base' ok x v}, base' ≤ base → M w base ok x v → M w base' ok x v
namespace Tys
variable {α β : Type}
def one (a : Ty α) : Tys α where
 K := fun w x l => ∃ v, l = [v] ∧ a.K w x v
 M := fun w base ok x l => ∃ v, l = [v] ∧ a.M w base ok x v
 K_below := by
  rintro w w1 x l hb ⟨v, rfl, h⟩
  exact ⟨v, rfl, a.K_below hb h⟩
 K_of_M := by
  rintro w base ok x l ⟨v, rfl, h⟩
  exact ⟨v, rfl, a.K_of_M h⟩
 M_mono := by
  rintro w base ok ok' x l hok ⟨v, rfl, h⟩
  exact ⟨v, rfl, a.M_mono hok h⟩
 M_bound := by
  rintro w base ok x l ⟨v, rfl, h⟩
  exact ⟨v, rfl, a.M_bound h⟩
 M_move := by
  rintro w w1 base ok x l hm ⟨v, rfl, h⟩
  exact ⟨v, rfl, a.M_move hm h⟩
 M_lower := by
  rintro w base base' ok x l hb ⟨v, rfl, h⟩
  exact ⟨v, rfl, a.M_lower hb h⟩
def cons (a : Ty α) (b : Tys β) : Tys (α × β) where
 K := fun w x l => ∃ v r, l = v :: r ∧ a.K w x.1 v ∧ b.K w x.2 r
 M := fun w base ok x l => ∃ v r ok1 ok2, l = v :: r ∧ (∀ k, ok1 k → ok k) ∧ (∀ k, ok2 k → ok k ∧ ¬ ok1 k) ∧ a.M w base ok1 x.1 v ∧ b.M w base ok2 x.2 r
 K_below := by
  rintro w w1 x l hb ⟨v, r, rfl, h1, h2⟩
  exact ⟨v, r, rfl, a.K_below hb h1, b.K_below hb h2⟩
 K_of_M := by
  rintro w base ok x l ⟨v, r, ok1, ok2, rfl, _, _, h1, h2⟩
  exact ⟨v, r, rfl, a.K_of_M h1, b.K_of_M h2⟩
 M_mono := by
  rintro w base ok ok' x l hok ⟨v, r, ok1, ok2, rfl, e1, e2, h1, h2⟩
  exact ⟨v, r, ok1, ok2, rfl, fun k hk => hok k (e1 k hk), fun k hk => ⟨hok k (e2 k hk).1, (e2 k hk).2⟩, h1, h2⟩
 M_bound := by
  rintro w base ok x l ⟨v, r, ok1, ok2, rfl, e1, e2, h1, h2⟩
  exact ⟨v, r, _, _, rfl, fun k hk => ⟨e1 k hk.1, hk.2⟩, fun k hk => ⟨⟨(e2 k hk.1).1, hk.2⟩, fun hk' => (e2 k hk.1).2 hk'.1⟩, a.M_bound h1, b.M_bound h2⟩
 M_move := by
  rintro w w1 base ok x l hm ⟨v, r, ok1, ok2, rfl, e1, e2, h1, h2⟩
  exact ⟨v, r, ok1, ok2, rfl, e1, e2, a.M_move (fun k hk => hm k (e1 k hk)) h1, b.M_move (fun k hk => hm k (e2 k hk).1) h2⟩
 M_lower := by
  rintro w base base' ok x l hb ⟨v, r, ok1, ok2, rfl, e1, e2, h1, h2⟩
  exact ⟨v, r, ok1, ok2, rfl, e1, e2, a.M_lower hb h1, b.M_lower hb h2⟩
end Tys
def Ty.agg {α : Type} (t : Tys α) : Ty α where
 K := fun w x v => ∃ l, v = .agg l.toArray ∧ t.K w x l
 M := fun w base ok x v => ∃ l, v = .agg l.toArray ∧ t.M w base ok x l
 K_below := by
  rintro w w1 x v hb ⟨l, rfl, h⟩
  exact ⟨l, rfl, t.K_below hb h⟩
 K_of_M := by
  rintro w base ok x v ⟨l, rfl, h⟩
  exact ⟨l, rfl, t.K_of_M h⟩
 M_mono := by
  rintro w base ok ok' x v hok ⟨l, rfl, h⟩
  exact ⟨l, rfl, t.M_mono hok h⟩
 M_bound := by
  rintro w base ok x v ⟨l, rfl, h⟩
  exact ⟨l, rfl, t.M_bound h⟩
 M_move := by
  rintro w w1 base ok x v hm ⟨l, rfl, h⟩
  exact ⟨l, rfl, t.M_move hm h⟩
 M_lower := by
  rintro w base base' ok x v hb ⟨l, rfl, h⟩
  exact ⟨l, rfl, t.M_lower hb h⟩
end Go.Proofs.Ytmgmdnmfalepkaa.Ty

namespace Go.Proofs.Ytmgmdnmfalepkaa.L
open Go.RowKit Go.Proofs.YtmgmdnmfalepkaaW.PrintWords Go.Proofs.YtmgmdnmfalepkaaW.PrintLast Go.Proofs.YtmgmdnmfalepkaaW.PrintMore
attribute [local go_sem] max2_int min2_int max_two min_two max_three min_three max_four min_four
set_option linter.unusedVariables false
set_option linter.unusedSimpArgs false
def laws_szByteS.f (l0 : List Int) (a1 : Int) : Option (Int) := if (wrap64 (a1 - (l0.length : Int))) < 0 then (some (-1)) else (some (wrap64 (a1 - (l0.length : Int))))
def laws_szByteSS.l0 : Nat → List (List Int) → Int → Int → Option (Int)
 | 0, _, _, _ => none
 | k + 1, x0, x1, x5 => if x5 < (x0.length : Int) then (if 0 ≤ x5 then ((laws_szByteS.f (rd_L1 x0 x5) x1).bind fun t102 => (if t102 < 0 then (some (-1)) else (laws_szByteSS.l0 k x0 t102 (wrap64 (x5 + 1))))) else (none)) else (some x1)
def laws_szByteSS.f (k : Nat) (l0 : List (List Int)) (a1 : Int) : Option (Int) := if (wrap64 (a1 - (l0.length : Int))) < 0 then (some (-1)) else (laws_szByteSS.l0 k l0 (wrap64 (a1 - (l0.length : Int))) 0)
theorem laws_szByteSS.mono_l : ∀ k, (∀ y0 y1 y2, LeO (laws_szByteSS.l0 k y0 y1 y2) (laws_szByteSS.l0 (k + 1) y0 y1 y2))
 | 0 => fun _ _ _ r h => by simp [laws_szByteSS.l0] at h
 | k + 1 => by
  have ih0 := laws_szByteSS.mono_l k
  ·intro y0 y1 y2
   unfold laws_szByteSS.l0
   repeat' first
   | (with_reducible exact ih0 _ _ _)
   | (with_reducible exact LeO.refl _)
   | (with_reducible exact LeO.none _)
   | (with_reducible refine LeO.ite ?_ ?_)
   | (with_reducible refine LeO.bind ?_ (fun _ => ?_))
   | exact ih0 _ _ _
   | exact LeO.none _
   | refine LeO.ite ?_ ?_
   | refine LeO.bind ?_ (fun _ => ?_)
theorem laws_szByteSS.mono : ∀ a0 a1 k, LeO (laws_szByteSS.f k a0 a1) (laws_szByteSS.f (k + 1) a0 a1) := by
 intro a0 a1 k
 have ih0 := laws_szByteSS.mono_l k
 unfold laws_szByteSS.f
 repeat' first
   | (with_reducible exact ih0 _ _ _)
   | (with_reducible exact LeO.refl _)
   | (with_reducible exact LeO.none _)
   | (with_reducible refine LeO.ite ?_ ?_)
   | (with_reducible refine LeO.bind ?_ (fun _ => ?_))
   | exact ih0 _ _ _
   | exact LeO.none _
   | refine LeO.ite ?_ ?_
   | refine LeO.bind ?_ (fun _ => ?_)
def laws_toByteS.l0 : Nat → List Int → List Int → Int → Option (List Int)
 | 0, _, _, _ => none
 | k + 1, x0, x3, x4 => if x4 < (x0.length : Int) then (if 0 ≤ x4 then (if x4 < (x3.length : Int) then (laws_toByteS.l0 k x0 (x3.set (x4 : Int).toNat (rd x0 x4)) (wrap64 (x4 + 1))) else (none)) else (none)) else (some x3)
def laws_toByteS.f (k : Nat) (l0 : List Int) : Option (List Int) := if 0 ≤ (l0.length : Int) then (if ((l0.length : Int) : Int).toNat ≤ 281474976710656 then (laws_toByteS.l0 k l0 (List.replicate ((l0.length : Int) : Int).toNat 0) 0) else (none)) else (none)
theorem laws_toByteS.mono_l : ∀ k, (∀ y0 y1 y2, LeO (laws_toByteS.l0 k y0 y1 y2) (laws_toByteS.l0 (k + 1) y0 y1 y2))
 | 0 => fun _ _ _ r h => by simp [laws_toByteS.l0] at h
 | k + 1 => by
  have ih0 := laws_toByteS.mono_l k
  ·intro y0 y1 y2
   unfold laws_toByteS.l0
   repeat' first
   | (with_reducible exact ih0 _ _ _)
   | (with_reducible exact LeO.refl _)
   | (with_reducible exact LeO.none _)
   | (with_reducible refine LeO.ite ?_ ?_)
   | (with_reducible refine LeO.bind ?_ (fun _ => ?_))
   | exact ih0 _ _ _
   | exact LeO.none _
   | refine LeO.ite ?_ ?_
   | refine LeO.bind ?_ (fun _ => ?_)
theorem laws_toByteS.mono : ∀ a0 k, LeO (laws_toByteS.f k a0) (laws_toByteS.f (k + 1) a0) := by
 intro a0 k
 have ih0 := laws_toByteS.mono_l k
 unfold laws_toByteS.f
 repeat' first
   | (with_reducible exact ih0 _ _ _)
   | (with_reducible exact LeO.refl _)
   | (with_reducible exact LeO.none _)
   | (with_reducible refine LeO.ite ?_ ?_)
   | (with_reducible refine LeO.bind ?_ (fun _ => ?_))
   | exact ih0 _ _ _
   | exact LeO.none _
   | refine LeO.ite ?_ ?_
   | refine LeO.bind ?_ (fun _ => ?_)
def laws_toByteSS.l0 : Nat → List (List Int) → List (List Int) → Int → Option ((List (List Int)))
 | 0, _, _, _ => none
 | k + 1, x0, x3, x4 => if x4 < (x0.length : Int) then (if 0 ≤ x4 then ((laws_toByteS.f k (rd_L1 x0 x4)).bind fun t112 => (if x4 < (x3.length : Int) then (laws_toByteSS.l0 k x0 (x3.set (x4 : Int).toNat t112) (wrap64 (x4 + 1))) else (none))) else (none)) else (some x3)
def laws_toByteSS.f (k : Nat) (l0 : List (List Int)) : Option ((List (List Int))) := if 0 ≤ (l0.length : Int) then (if ((l0.length : Int) : Int).toNat ≤ 11728124029610 then (laws_toByteSS.l0 k l0 (List.replicate ((l0.length : Int) : Int).toNat []) 0) else (none)) else (none)
theorem laws_toByteSS.mono_l : ∀ k, (∀ y0 y1 y2, LeO (laws_toByteSS.l0 k y0 y1 y2) (laws_toByteSS.l0 (k + 1) y0 y1 y2))
 | 0 => fun _ _ _ r h => by simp [laws_toByteSS.l0] at h
 | k + 1 => by
  have ih0 := laws_toByteSS.mono_l k
  ·intro y0 y1 y2
   unfold laws_toByteSS.l0
   repeat' first
   | (with_reducible exact ih0 _ _ _)
   | (with_reducible exact laws_toByteS.mono _ _)
   | (with_reducible exact LeO.refl _)
   | (with_reducible exact LeO.none _)
   | (with_reducible refine LeO.ite ?_ ?_)
   | (with_reducible refine LeO.bind ?_ (fun _ => ?_))
   | exact ih0 _ _ _
   | exact laws_toByteS.mono _ _
   | exact LeO.none _
   | refine LeO.ite ?_ ?_
   | refine LeO.bind ?_ (fun _ => ?_)
theorem laws_toByteSS.mono : ∀ a0 k, LeO (laws_toByteSS.f k a0) (laws_toByteSS.f (k + 1) a0) := by
 intro a0 k
 have ih0 := laws_toByteSS.mono_l k
 unfold laws_toByteSS.f
 repeat' first
   | (with_reducible exact ih0 _ _ _)
   | (with_reducible exact laws_toByteS.mono _ _)
   | (with_reducible exact LeO.refl _)
   | (with_reducible exact LeO.none _)
   | (with_reducible refine LeO.ite ?_ ?_)
   | (with_reducible refine LeO.bind ?_ (fun _ => ?_))
   | exact ih0 _ _ _
   | exact laws_toByteS.mono _ _
   | exact LeO.none _
   | refine LeO.ite ?_ ?_
   | refine LeO.bind ?_ (fun _ => ?_)
def laws_eqByteS.l0 : Nat → List Int → List Int → Int → Option (Bool)
 | 0, _, _, _ => none
 | k + 1, x0, x1, x5 => if x5 < (x0.length : Int) then (if 0 ≤ x5 then (if x5 < (x1.length : Int) then (if (rd x0 x5) = (rd x1 x5) then (laws_eqByteS.l0 k x0 x1 (wrap64 (x5 + 1))) else (some false)) else (none)) else (none)) else (some true)
def laws_eqByteS.f (k : Nat) (l0 : List Int) (l1 : List Int) : Option (Bool) := if (l0.length : Int) = (l1.length : Int) then (laws_eqByteS.l0 k l0 l1 0) else (some false)
theorem laws_eqByteS.mono_l : ∀ k, (∀ y0 y1 y2, LeO (laws_eqByteS.l0 k y0 y1 y2) (laws_eqByteS.l0 (k + 1) y0 y1 y2))
 | 0 => fun _ _ _ r h => by simp [laws_eqByteS.l0] at h
 | k + 1 => by
  have ih0 := laws_eqByteS.mono_l k
  ·intro y0 y1 y2
   unfold laws_eqByteS.l0
   repeat' first
   | (with_reducible exact ih0 _ _ _)
   | (with_reducible exact LeO.refl _)
   | (with_reducible exact LeO.none _)
   | (with_reducible refine LeO.ite ?_ ?_)
   | (with_reducible refine LeO.bind ?_ (fun _ => ?_))
   | exact ih0 _ _ _
   | exact LeO.none _
   | refine LeO.ite ?_ ?_
   | refine LeO.bind ?_ (fun _ => ?_)
theorem laws_eqByteS.mono : ∀ a0 a1 k, LeO (laws_eqByteS.f k a0 a1) (laws_eqByteS.f (k + 1) a0 a1) := by
 intro a0 a1 k
 have ih0 := laws_eqByteS.mono_l k
 unfold laws_eqByteS.f
 repeat' first
   | (with_reducible exact ih0 _ _ _)
   | (with_reducible exact LeO.refl _)
   | (with_reducible exact LeO.none _)
   | (with_reducible refine LeO.ite ?_ ?_)
   | (with_reducible refine LeO.bind ?_ (fun _ => ?_))
   | exact ih0 _ _ _
   | exact LeO.none _
   | refine LeO.ite ?_ ?_
   | refine LeO.bind ?_ (fun _ => ?_)
def laws_eqByteSS.l0 : Nat → List (List Int) → List (List Int) → Int → Option (Bool)
 | 0, _, _, _ => none
 | k + 1, x0, x1, x5 => if x5 < (x0.length : Int) then (if 0 ≤ x5 then (if x5 < (x1.length : Int) then ((laws_eqByteS.f k (rd_L1 x0 x5) (rd_L1 x1 x5)).bind fun t120 => (if t120 = true then (laws_eqByteSS.l0 k x0 x1 (wrap64 (x5 + 1))) else (some false))) else (none)) else (none)) else (some true)
def laws_eqByteSS.f (k : Nat) (l0 : List (List Int)) (l1 : List (List Int)) : Option (Bool) := if (l0.length : Int) = (l1.length : Int) then (laws_eqByteSS.l0 k l0 l1 0) else (some false)
theorem laws_eqByteSS.mono_l : ∀ k, (∀ y0 y1 y2, LeO (laws_eqByteSS.l0 k y0 y1 y2) (laws_eqByteSS.l0 (k + 1) y0 y1 y2))
 | 0 => fun _ _ _ r h => by simp [laws_eqByteSS.l0] at h
 | k + 1 => by
  have ih0 := laws_eqByteSS.mono_l k
  ·intro y0 y1 y2
   unfold laws_eqByteSS.l0
   repeat' first
   | (with_reducible exact ih0 _ _ _)
   | (with_reducible exact laws_eqByteS.mono _ _ _)
   | (with_reducible exact LeO.refl _)
   | (with_reducible exact LeO.none _)
   | (with_reducible refine LeO.ite ?_ ?_)
   | (with_reducible refine LeO.bind ?_ (fun _ => ?_))
   | exact ih0 _ _ _
   | exact laws_eqByteS.mono _ _ _
   | exact LeO.none _
   | refine LeO.ite ?_ ?_
   | refine LeO.bind ?_ (fun _ => ?_)
theorem laws_eqByteSS.mono : ∀ a0 a1 k, LeO (laws_eqByteSS.f k a0 a1) (laws_eqByteSS.f (k + 1) a0 a1) := by
 intro a0 a1 k
 have ih0 := laws_eqByteSS.mono_l k
 unfold laws_eqByteSS.f
 repeat' first
   | (with_reducible exact ih0 _ _ _)
   | (with_reducible exact laws_eqByteS.mono _ _ _)
   | (with_reducible exact LeO.refl _)
   | (with_reducible exact LeO.none _)
   | (with_reducible refine LeO.ite ?_ ?_)
   | (with_reducible refine LeO.bind ?_ (fun _ => ?_))
   | exact ih0 _ _ _
   | exact laws_eqByteS.mono _ _ _
   | exact LeO.none _
   | refine LeO.ite ?_ ?_
   | refine LeO.bind ?_ (fun _ => ?_)
def laws_heldByteS.l0 : Nat → List Int → Int → Int → Option (Int)
 | 0, _, _, _ => none
 | k + 1, x0, x1, x5 => if x5 < (x0.length : Int) then (if 0 ≤ x5 then (if (rd x0 x5) = ((x1) % 256) then (laws_heldByteS.l0 k x0 (wrap64 (x1 + 1)) (wrap64 (x5 + 1))) else (some (-1))) else (none)) else (some x1)
def laws_heldByteS.f (k : Nat) (l0 : List Int) (a1 : Int) : Option (Int) := laws_heldByteS.l0 k l0 a1 0
theorem laws_heldByteS.mono_l : ∀ k, (∀ y0 y1 y2, LeO (laws_heldByteS.l0 k y0 y1 y2) (laws_heldByteS.l0 (k + 1) y0 y1 y2))
 | 0 => fun _ _ _ r h => by simp [laws_heldByteS.l0] at h
 | k + 1 => by
  have ih0 := laws_heldByteS.mono_l k
  ·intro y0 y1 y2
   unfold laws_heldByteS.l0
   repeat' first
   | (with_reducible exact ih0 _ _ _)
   | (with_reducible exact LeO.refl _)
   | (with_reducible exact LeO.none _)
   | (with_reducible refine LeO.ite ?_ ?_)
   | (with_reducible refine LeO.bind ?_ (fun _ => ?_))
   | exact ih0 _ _ _
   | exact LeO.none _
   | refine LeO.ite ?_ ?_
   | refine LeO.bind ?_ (fun _ => ?_)
theorem laws_heldByteS.mono : ∀ a0 a1 k, LeO (laws_heldByteS.f k a0 a1) (laws_heldByteS.f (k + 1) a0 a1) := by
 intro a0 a1 k
 have ih0 := laws_heldByteS.mono_l k
 unfold laws_heldByteS.f
 repeat' first
   | (with_reducible exact ih0 _ _ _)
   | (with_reducible exact LeO.refl _)
   | (with_reducible exact LeO.none _)
   | (with_reducible refine LeO.ite ?_ ?_)
   | (with_reducible refine LeO.bind ?_ (fun _ => ?_))
   | exact ih0 _ _ _
   | exact LeO.none _
   | refine LeO.ite ?_ ?_
   | refine LeO.bind ?_ (fun _ => ?_)
def laws_heldByteSS.l0 : Nat → List (List Int) → Int → Int → Option (Int)
 | 0, _, _, _ => none
 | k + 1, x0, x1, x5 => if x5 < (x0.length : Int) then (if 0 ≤ x5 then ((laws_heldByteS.f k (rd_L1 x0 x5) x1).bind fun t123 => (if t123 < 0 then (some (-1)) else (laws_heldByteSS.l0 k x0 t123 (wrap64 (x5 + 1))))) else (none)) else (some x1)
def laws_heldByteSS.f (k : Nat) (l0 : List (List Int)) (a1 : Int) : Option (Int) := laws_heldByteSS.l0 k l0 a1 0
theorem laws_heldByteSS.mono_l : ∀ k, (∀ y0 y1 y2, LeO (laws_heldByteSS.l0 k y0 y1 y2) (laws_heldByteSS.l0 (k + 1) y0 y1 y2))
 | 0 => fun _ _ _ r h => by simp [laws_heldByteSS.l0] at h
 | k + 1 => by
  have ih0 := laws_heldByteSS.mono_l k
  ·intro y0 y1 y2
   unfold laws_heldByteSS.l0
   repeat' first
   | (with_reducible exact ih0 _ _ _)
   | (with_reducible exact laws_heldByteS.mono _ _ _)
   | (with_reducible exact LeO.refl _)
   | (with_reducible exact LeO.none _)
   | (with_reducible refine LeO.ite ?_ ?_)
   | (with_reducible refine LeO.bind ?_ (fun _ => ?_))
   | exact ih0 _ _ _
   | exact laws_heldByteS.mono _ _ _
   | exact LeO.none _
   | refine LeO.ite ?_ ?_
   | refine LeO.bind ?_ (fun _ => ?_)
theorem laws_heldByteSS.mono : ∀ a0 a1 k, LeO (laws_heldByteSS.f k a0 a1) (laws_heldByteSS.f (k + 1) a0 a1) := by
 intro a0 a1 k
 have ih0 := laws_heldByteSS.mono_l k
 unfold laws_heldByteSS.f
 repeat' first
   | (with_reducible exact ih0 _ _ _)
   | (with_reducible exact laws_heldByteS.mono _ _ _)
   | (with_reducible exact LeO.refl _)
   | (with_reducible exact LeO.none _)
   | (with_reducible refine LeO.ite ?_ ?_)
   | (with_reducible refine LeO.bind ?_ (fun _ => ?_))
   | exact ih0 _ _ _
   | exact laws_heldByteS.mono _ _ _
   | exact LeO.none _
   | refine LeO.ite ?_ ?_
   | refine LeO.bind ?_ (fun _ => ?_)
def laws_markByteS.l0 : Nat → List Int → Int → Int → Option (Int × List Int)
 | 0, _, _, _ => none
 | k + 1, x0, x1, x5 => if x5 < (x0.length : Int) then (if 0 ≤ x5 then (laws_markByteS.l0 k (x0.set (x5 : Int).toNat ((x1) % 256)) (wrap64 (x1 + 1)) (wrap64 (x5 + 1))) else (none)) else (some (x1, x0))
def laws_markByteS.f (k : Nat) (l0 : List Int) (a1 : Int) : Option (Int × List Int) := laws_markByteS.l0 k l0 a1 0
theorem laws_markByteS.mono_l : ∀ k, (∀ y0 y1 y2, LeO (laws_markByteS.l0 k y0 y1 y2) (laws_markByteS.l0 (k + 1) y0 y1 y2))
 | 0 => fun _ _ _ r h => by simp [laws_markByteS.l0] at h
 | k + 1 => by
  have ih0 := laws_markByteS.mono_l k
  ·intro y0 y1 y2
   unfold laws_markByteS.l0
   repeat' first
   | (with_reducible exact ih0 _ _ _)
   | (with_reducible exact LeO.refl _)
   | (with_reducible exact LeO.none _)
   | (with_reducible refine LeO.ite ?_ ?_)
   | (with_reducible refine LeO.bind ?_ (fun _ => ?_))
   | exact ih0 _ _ _
   | exact LeO.none _
   | refine LeO.ite ?_ ?_
   | refine LeO.bind ?_ (fun _ => ?_)
theorem laws_markByteS.mono : ∀ a0 a1 k, LeO (laws_markByteS.f k a0 a1) (laws_markByteS.f (k + 1) a0 a1) := by
 intro a0 a1 k
 have ih0 := laws_markByteS.mono_l k
 unfold laws_markByteS.f
 repeat' first
   | (with_reducible exact ih0 _ _ _)
   | (with_reducible exact LeO.refl _)
   | (with_reducible exact LeO.none _)
   | (with_reducible refine LeO.ite ?_ ?_)
   | (with_reducible refine LeO.bind ?_ (fun _ => ?_))
   | exact ih0 _ _ _
   | exact LeO.none _
   | refine LeO.ite ?_ ?_
   | refine LeO.bind ?_ (fun _ => ?_)
end Go.Proofs.Ytmgmdnmfalepkaa.L

namespace Go.Proofs.Ytmgmdnmfalepkaa.HelpB
open Go.RowKit Go.Proofs.YtmgmdnmfalepkaaW.PrintWords Go.Proofs.YtmgmdnmfalepkaaW.PrintMore Go.Proofs.Ytmgmdnmfalepkaa.Kit Go.Proofs.Ytmgmdnmfalepkaa.PKit Go.Proofs.Ytmgmdnmfalepkaa.Ty
open Go.Proofs.Ytmgmdnmfalepkaa.L
set_option linter.unusedVariables false
abbrev tB : Ty (List Int) := Ty.row (Kd.int .u8) 5
abbrev smallB (x : List Int) : Prop := x.length ≤ 1048576
end Go.Proofs.Ytmgmdnmfalepkaa.HelpB

namespace Go.Proofs.Ytmgmdnmfalepkaa.HelpBB
open Go.RowKit Go.Proofs.YtmgmdnmfalepkaaW.PrintWords Go.Proofs.YtmgmdnmfalepkaaW.PrintMore Go.Proofs.Ytmgmdnmfalepkaa.Kit Go.Proofs.Ytmgmdnmfalepkaa.PKit Go.Proofs.Ytmgmdnmfalepkaa.Ty Go.Proofs.Ytmgmdnmfalepkaa.HelpB
open Go.Proofs.Ytmgmdnmfalepkaa.L
set_option linter.unusedVariables false
abbrev kB := Kd.slice 5 (Kd.int .u8)
abbrev tBB : Ty (List (List Int)) := Ty.rows kB 33
def totalB : List (List Int) → Nat
 | [] => 0
 | x :: r => x.length + totalB r
abbrev smallBB (x : List (List Int)) : Prop := x.length + totalB x ≤ 1048576
theorem total_snoc (xs : List (List Int)) (x : List Int) : totalB (xs ++ [x]) = totalB xs + x.length := by
 induction xs with
 | nil => simp [totalB]
 | cons y r ih => simp only [List.cons_append, totalB, ih]; omega
theorem total_append (xs ys : List (List Int)) : totalB (xs ++ ys) = totalB xs + totalB ys := by
 induction xs with
 | nil => simp [totalB]
 | cons y r ih => simp only [List.cons_append, totalB, ih]; omega
theorem take_snoc (xs : List (List Int)) (i : Nat) (hi : i < xs.length) : xs.take (i + 1) = xs.take i ++ [xs.getD i []] := by
 rw [List.take_succ_eq_append_getElem hi]
 simp [List.getD, List.getElem?_eq_getElem hi]
theorem total_take (xs : List (List Int)) (i : Nat) : totalB (xs.take i) ≤ totalB xs := by
 induction xs generalizing i with
 | nil => simp [totalB]
 | cons x r ih =>
  cases i with
  | zero => simp [totalB]
  | succ i => simp only [List.take_succ_cons, totalB]; have := ih i; omega
theorem total_mem {xs : List (List Int)} {x : List Int} (h : x ∈ xs) : x.length ≤ totalB xs := by
 induction xs with
 | nil => cases h
 | cons y r ih =>
  simp only [totalB]
  rcases List.mem_cons.1 h with e | h
  ·subst e; omega
  ·have := ih h; omega
end Go.Proofs.Ytmgmdnmfalepkaa.HelpBB

namespace Go.Proofs.Ytmgmdnmfalepkaa.L
open Go.RowKit Go.Proofs.YtmgmdnmfalepkaaW.PrintWords Go.Proofs.YtmgmdnmfalepkaaW.PrintLast Go.Proofs.YtmgmdnmfalepkaaW.PrintMore
attribute [local go_sem] max2_int min2_int max_two min_two max_three min_three max_four min_four
set_option linter.unusedVariables false
set_option linter.unusedSimpArgs false
def spec_l4bytes.l0 : Nat → List (List Int) → Int → Int → Option (Int)
 | 0, _, _, _ => none
 | k + 1, x0, x3, x4 => if x4 < (x0.length : Int) then (if 0 ≤ x4 then (spec_l4bytes.l0 k x0 (wrap64 (x3 + ((rd_L1 x0 x4).length : Int))) (wrap64 (x4 + 1))) else (none)) else (some x3)
def spec_l4bytes.f (k : Nat) (l0 : List (List Int)) : Option (Int) := spec_l4bytes.l0 k l0 0 0
theorem spec_l4bytes.mono_l : ∀ k, (∀ y0 y1 y2, LeO (spec_l4bytes.l0 k y0 y1 y2) (spec_l4bytes.l0 (k + 1) y0 y1 y2))
 | 0 => fun _ _ _ r h => by simp [spec_l4bytes.l0] at h
 | k + 1 => by
  have ih0 := spec_l4bytes.mono_l k
  ·intro y0 y1 y2
   unfold spec_l4bytes.l0
   repeat' first
   | (with_reducible exact ih0 _ _ _)
   | (with_reducible exact LeO.refl _)
   | (with_reducible exact LeO.none _)
   | (with_reducible refine LeO.ite ?_ ?_)
   | (with_reducible refine LeO.bind ?_ (fun _ => ?_))
   | exact ih0 _ _ _
   | exact LeO.none _
   | refine LeO.ite ?_ ?_
   | refine LeO.bind ?_ (fun _ => ?_)
theorem spec_l4bytes.mono : ∀ a0 k, LeO (spec_l4bytes.f k a0) (spec_l4bytes.f (k + 1) a0) := by
 intro a0 k
 have ih0 := spec_l4bytes.mono_l k
 unfold spec_l4bytes.f
 repeat' first
   | (with_reducible exact ih0 _ _ _)
   | (with_reducible exact LeO.refl _)
   | (with_reducible exact LeO.none _)
   | (with_reducible refine LeO.ite ?_ ?_)
   | (with_reducible refine LeO.bind ?_ (fun _ => ?_))
   | exact ih0 _ _ _
   | exact LeO.none _
   | refine LeO.ite ?_ ?_
   | refine LeO.bind ?_ (fun _ => ?_)
set_option maxHeartbeats 8000000 in
set_option maxRecDepth 100000 in
theorem spec_l4bytes.calls (k : Nat) (A0 : Option Addr) (c0 : Nat) (l0 : List (List Int)) (r : Int) (w : World) (hr0 : Kd.C (Kd.slice 5 (Kd.int .u8)) w A0 l0.length l0) (hc0 : l0.length ≤ c0) (h : spec_l4bytes.f k l0 = some r) :
  Calls Try.prog 107 #[.slice A0 l0.length c0] w fun e w' => e = .returned (.int .i64 r) ∧ Drawn0 w w' := by
 have HR0 := zA hr0
 have HC0 := zA hc0
 clear hr0 hc0
 have H : (spec_l4bytes.l0 k l0 0 0) = some r := h
 clear h
 have H' := zA H
 clear H
 go_enter Try.func107, Try.ntmps107
 go_wp2
 go_loopg [3, 4] k (fun kq v3 v4 w' => ∃ (x3_1 : Int) (x4_1 : Int), v3 = .int .i64 x3_1 ∧ v4 = .int .i64 x4_1 ∧ Aside0 (spec_l4bytes.l0 kq l0 x3_1 x4_1 = some r) ∧ Aside0 (kq ≤ k) ∧ Drawn0 w w')
 case atStart => exact ⟨(0), (0), zq6, zq6, H', ⟨Nat.le_refl _⟩, zq10⟩
 case round =>
  clear H'
  try clear c1
  obtain ⟨x3_1, x4_1, rfl, rfl, HA, HK1, ⟨m1, rfl⟩⟩ := hrel
  cases gk with
  | zero => exact absurd HA.out (by simp [spec_l4bytes.l0])
  | succ k1 =>
   have H := HA.out
   clear HA
   simp only [spec_l4bytes.l0] at H
   by_cases c2 : x4_1 < (l0.length : Int)
   ·rw [if_pos c2] at H
    have c2b0 : decide (x4_1 < (l0.length : Int)) = true := decide_eq_true c2
    clear c2
    by_cases c3 : 0 ≤ x4_1
    ·rw [if_pos c3] at H
     have c3b0 : decide (0 ≤ x4_1) = true := decide_eq_true c3
     clear c3
     have H' := zA H
     clear H
     have p228 : 0 ≤ (x4_1 : Int) := of_decide_eq_true zq4
     have q228 : x4_1 < (l0.length : Int) := of_decide_eq_true zq4
     obtain ⟨ad228, A228_0, c228_0, e228, hx228_0, hl228_0, hi228_0⟩ := at_L1 HR0.out x4_1 p228 q228
     cases e228
     have HR228_0 := zA hi228_0
     have HC228_0 := zA hl228_0
     clear hi228_0 hl228_0
     replace p228 := eq_true p228
     replace q228 := eq_true q228
     go_wp2
     go_roundg k1
     case measure => have := HK1.out; omega
     case rel => exact ⟨(wrap64 (x3_1 + ((rd_L1 l0 x4_1).length : Int))), (wrap64 (x4_1 + 1)), zq6, zq6, H', ⟨zq39⟩, zq10⟩
    ·rw [if_neg c3] at H
     exact absurd H zq14
   ·rw [if_neg c2] at H
    have c2b0 : decide (x4_1 < (l0.length : Int)) = false := decide_eq_false c2
    clear c2
    obtain rfl := Option.some.inj H
    go_wp2
    go_ret
    exact ⟨zq6, zq10⟩
mutual
def spec_l4plain.l0 : Nat → List (List Int) → Int → Option (Bool)
 | 0, _, _ => none
 | k + 1, x0, x3 => if x3 < (x0.length : Int) then (spec_l4plain.l1 k x0 x3 0) else (some true)
def spec_l4plain.l1 : Nat → List (List Int) → Int → Int → Option (Bool)
 | 0, _, _, _ => none
 | k + 1, x0, x3, x4 => if 0 ≤ x3 then (if x3 < (x0.length : Int) then (if x4 < ((rd_L1 x0 x3).length : Int) then (if 0 ≤ x4 then (if (rd (rd_L1 x0 x3) x4) = 10 then (some false) else (spec_l4plain.l1 k x0 x3 (wrap64 (x4 + 1)))) else (none)) else (spec_l4plain.l0 k x0 (wrap64 (x3 + 1)))) else (none)) else (none)
end
def spec_l4plain.f (k : Nat) (l0 : List (List Int)) : Option (Bool) := spec_l4plain.l0 k l0 0
theorem spec_l4plain.mono_l : ∀ k, (∀ y0 y1, LeO (spec_l4plain.l0 k y0 y1) (spec_l4plain.l0 (k + 1) y0 y1)) ∧ (∀ y0 y1 y2, LeO (spec_l4plain.l1 k y0 y1 y2) (spec_l4plain.l1 (k + 1) y0 y1 y2))
 | 0 => ⟨fun _ _ r h => by simp [spec_l4plain.l0] at h, fun _ _ _ r h => by simp [spec_l4plain.l1] at h⟩
 | k + 1 => by
  obtain ⟨ih0, ih1⟩ := spec_l4plain.mono_l k
  refine ⟨?_, ?_⟩
  ·intro y0 y1
   unfold spec_l4plain.l0
   repeat' first
   | (with_reducible exact ih0 _ _)
   | (with_reducible exact ih1 _ _ _)
   | (with_reducible exact LeO.refl _)
   | (with_reducible exact LeO.none _)
   | (with_reducible refine LeO.ite ?_ ?_)
   | (with_reducible refine LeO.bind ?_ (fun _ => ?_))
   | exact ih0 _ _
   | exact ih1 _ _ _
   | exact LeO.none _
   | refine LeO.ite ?_ ?_
   | refine LeO.bind ?_ (fun _ => ?_)
  ·intro y0 y1 y2
   unfold spec_l4plain.l1
   repeat' first
   | (with_reducible exact ih0 _ _)
   | (with_reducible exact ih1 _ _ _)
   | (with_reducible exact LeO.refl _)
   | (with_reducible exact LeO.none _)
   | (with_reducible refine LeO.ite ?_ ?_)
   | (with_reducible refine LeO.bind ?_ (fun _ => ?_))
   | exact ih0 _ _
   | exact ih1 _ _ _
   | exact LeO.none _
   | refine LeO.ite ?_ ?_
   | refine LeO.bind ?_ (fun _ => ?_)
theorem spec_l4plain.mono : ∀ a0 k, LeO (spec_l4plain.f k a0) (spec_l4plain.f (k + 1) a0) := by
 intro a0 k
 obtain ⟨ih0, ih1⟩ := spec_l4plain.mono_l k
 unfold spec_l4plain.f
 repeat' first
   | (with_reducible exact ih0 _ _)
   | (with_reducible exact ih1 _ _ _)
   | (with_reducible exact LeO.refl _)
   | (with_reducible exact LeO.none _)
   | (with_reducible refine LeO.ite ?_ ?_)
   | (with_reducible refine LeO.bind ?_ (fun _ => ?_))
   | exact ih0 _ _
   | exact ih1 _ _ _
   | exact LeO.none _
   | refine LeO.ite ?_ ?_
   | refine LeO.bind ?_ (fun _ => ?_)
set_option maxHeartbeats 8000000 in
set_option maxRecDepth 100000 in
theorem spec_l4plain.calls (k : Nat) (A0 : Option Addr) (c0 : Nat) (l0 : List (List Int)) (r : Bool) (w : World) (hr0 : Kd.C (Kd.slice 5 (Kd.int .u8)) w A0 l0.length l0) (hc0 : l0.length ≤ c0) (h : spec_l4plain.f k l0 = some r) :
  Calls Try.prog 133 #[.slice A0 l0.length c0] w fun e w' => e = .returned (.bool r) ∧ Drawn0 w w' := by
 have HR0 := zA hr0
 have HC0 := zA hc0
 clear hr0 hc0
 have H : (spec_l4plain.l0 k l0 0) = some r := h
 clear h
 have H' := zA H
 clear H
 go_enter Try.func133, Try.ntmps133
 go_wp2
 go_loopg [3] k (fun kq v3 w' => ∃ (x3_1 : Int), v3 = .int .i64 x3_1 ∧ Aside0 (spec_l4plain.l0 kq l0 x3_1 = some r) ∧ Aside0 (kq ≤ k) ∧ Drawn0 w w')
 case atStart => exact ⟨(0), zq6, H', ⟨Nat.le_refl _⟩, zq10⟩
 case round =>
  clear H'
  try clear c1
  obtain ⟨x3_1, rfl, HA, HK1, ⟨m1, rfl⟩⟩ := hrel
  cases gk with
  | zero => exact absurd HA.out (by simp [spec_l4plain.l0])
  | succ k1 =>
   have H := HA.out
   clear HA
   simp only [spec_l4plain.l0] at H
   by_cases c2 : x3_1 < (l0.length : Int)
   ·rw [if_pos c2] at H
    have c2b0 : decide (x3_1 < (l0.length : Int)) = true := decide_eq_true c2
    clear c2
    have H' := zA H
    clear H
    go_wp2
    go_loopg [4] k1 (fun kq v4 w' => ∃ (x4_2 : Int), v4 = .int .i64 x4_2 ∧ Aside0 (spec_l4plain.l1 kq l0 x3_1 x4_2 = some r) ∧ Aside0 (kq ≤ k1) ∧ Drawn0 w w')
    case atStart => exact ⟨(0), zq6, H', ⟨Nat.le_refl _⟩, zq10⟩
    case round =>
     clear H'
     try clear c1
     try clear c2
     try clear c2b0
     try clear p2
     obtain ⟨x4_2, rfl, HA, HK2, ⟨m2, rfl⟩⟩ := hrel
     cases gk with
     | zero => exact absurd HA.out (by simp [spec_l4plain.l1])
     | succ k2 =>
      have H := HA.out
      clear HA
      simp only [spec_l4plain.l1] at H
      by_cases c3 : 0 ≤ x3_1
      ·rw [if_pos c3] at H
       have c3b0 : decide (0 ≤ x3_1) = true := decide_eq_true c3
       clear c3
       by_cases c4 : x3_1 < (l0.length : Int)
       ·rw [if_pos c4] at H
        have c4b0 : decide (x3_1 < (l0.length : Int)) = true := decide_eq_true c4
        clear c4
        by_cases c5 : x4_2 < ((rd_L1 l0 x3_1).length : Int)
        ·rw [if_pos c5] at H
         have c5b0 : decide (x4_2 < ((rd_L1 l0 x3_1).length : Int)) = true := decide_eq_true c5
         clear c5
         by_cases c6 : 0 ≤ x4_2
         ·rw [if_pos c6] at H
          have c6b0 : decide (0 ≤ x4_2) = true := decide_eq_true c6
          clear c6
          by_cases c7 : (rd (rd_L1 l0 x3_1) x4_2) = 10
          ·rw [if_pos c7] at H
           have c7b0 : ((rd (rd_L1 l0 x3_1) x4_2) == 10) = true := beq_iff_eq.mpr c7
           have c7b1 : ((rd (rd_L1 l0 x3_1) x4_2) != 10) = false := bne_eq_false_iff_eq.mpr c7
           clear c7
           obtain rfl := Option.some.inj H
           have p229 : 0 ≤ (x3_1 : Int) := of_decide_eq_true zq4
           have q229 : x3_1 < (l0.length : Int) := of_decide_eq_true zq4
           obtain ⟨ad229, A229_0, c229_0, e229, hx229_0, hl229_0, hi229_0⟩ := at_L1 HR0.out x3_1 p229 q229
           cases e229
           have HR229_0 := zA hi229_0
           have HC229_0 := zA hl229_0
           clear hi229_0 hl229_0
           replace p229 := eq_true p229
           replace q229 := eq_true q229
           have p230 : 0 ≤ (x3_1 : Int) := of_decide_eq_true zq4
           have q230 : x3_1 < (l0.length : Int) := of_decide_eq_true zq4
           obtain ⟨ad230, A230_0, c230_0, e230, hx230_0, hl230_0, hi230_0⟩ := at_L1 HR0.out x3_1 p230 q230
           obtain rfl : ad229 = ad230 := (by injection e230)
           have HR230_0 := zA hi230_0
           have HC230_0 := zA hl230_0
           clear hi230_0 hl230_0
           replace p230 := eq_true p230
           replace q230 := eq_true q230
           have ea_ := Option.some.inj (hx229_0.symm.trans hx230_0)
           injection ea_ with ea_ en_ ec_
           subst ea_
           subst ec_
           clear en_
           have p231 : 0 ≤ (x4_2 : Int) := of_decide_eq_true zq4
           have q231 : x4_2 < ((rd_L1 l0 x3_1).length : Int) := of_decide_eq_true zq4
           obtain ⟨ad231, e231, hx231_0⟩ := Kd.at_int HR230_0.out x4_2 p231 q231
           cases e231
           replace p231 := eq_true p231
           replace q231 := eq_true q231
           go_wp2
           go_ret
           exact ⟨zq6, zq10⟩
          ·rw [if_neg c7] at H
           have c7b0 : ((rd (rd_L1 l0 x3_1) x4_2) == 10) = false := beq_eq_false_iff_ne.mpr c7
           have c7b1 : ((rd (rd_L1 l0 x3_1) x4_2) != 10) = true := bne_iff_ne.mpr c7
           have H' := zA H
           clear H
           have p229 : 0 ≤ (x3_1 : Int) := of_decide_eq_true zq4
           have q229 : x3_1 < (l0.length : Int) := of_decide_eq_true zq4
           obtain ⟨ad229, A229_0, c229_0, e229, hx229_0, hl229_0, hi229_0⟩ := at_L1 HR0.out x3_1 p229 q229
           cases e229
           have HR229_0 := zA hi229_0
           have HC229_0 := zA hl229_0
           clear hi229_0 hl229_0
           replace p229 := eq_true p229
           replace q229 := eq_true q229
           have p230 : 0 ≤ (x3_1 : Int) := of_decide_eq_true zq4
           have q230 : x3_1 < (l0.length : Int) := of_decide_eq_true zq4
           obtain ⟨ad230, A230_0, c230_0, e230, hx230_0, hl230_0, hi230_0⟩ := at_L1 HR0.out x3_1 p230 q230
           obtain rfl : ad229 = ad230 := (by injection e230)
           have HR230_0 := zA hi230_0
           have HC230_0 := zA hl230_0
           clear hi230_0 hl230_0
           replace p230 := eq_true p230
           replace q230 := eq_true q230
           have ea_ := Option.some.inj (hx229_0.symm.trans hx230_0)
           injection ea_ with ea_ en_ ec_
           subst ea_
           subst ec_
           clear en_
           have p231 : 0 ≤ (x4_2 : Int) := of_decide_eq_true zq4
           have q231 : x4_2 < ((rd_L1 l0 x3_1).length : Int) := of_decide_eq_true zq4
           obtain ⟨ad231, e231, hx231_0⟩ := Kd.at_int HR230_0.out x4_2 p231 q231
           cases e231
           replace p231 := eq_true p231
           replace q231 := eq_true q231
           go_wp2
           go_roundg k2
           case measure => have := HK1.out; have := HK2.out; omega
           case rel => exact ⟨(wrap64 (x4_2 + 1)), zq6, H', ⟨by have := HK1.out; have := HK2.out; omega⟩, zq10⟩
         ·rw [if_neg c6] at H
          exact absurd H zq14
        ·rw [if_neg c5] at H
         have c5b0 : decide (x4_2 < ((rd_L1 l0 x3_1).length : Int)) = false := decide_eq_false c5
         clear c5
         have H' := zA H
         clear H
         have p229 : 0 ≤ (x3_1 : Int) := of_decide_eq_true zq4
         have q229 : x3_1 < (l0.length : Int) := of_decide_eq_true zq4
         obtain ⟨ad229, A229_0, c229_0, e229, hx229_0, hl229_0, hi229_0⟩ := at_L1 HR0.out x3_1 p229 q229
         cases e229
         have HR229_0 := zA hi229_0
         have HC229_0 := zA hl229_0
         clear hi229_0 hl229_0
         replace p229 := eq_true p229
         replace q229 := eq_true q229
         go_wp2
         go_roundg k2
         case measure => have := HK1.out; have := HK2.out; omega
         case rel => exact ⟨(wrap64 (x3_1 + 1)), zq6, H', ⟨by have := HK1.out; have := HK2.out; omega⟩, zq10⟩
       ·rw [if_neg c4] at H
        exact absurd H zq14
      ·rw [if_neg c3] at H
       exact absurd H zq14
   ·rw [if_neg c2] at H
    have c2b0 : decide (x3_1 < (l0.length : Int)) = false := decide_eq_false c2
    clear c2
    obtain rfl := Option.some.inj H
    go_wp2
    go_ret
    exact ⟨zq6, zq10⟩
def spec_l4fits.j0 : Nat → Int → List (List Int) → Bool → Option (Bool)
 | 0, _, _, _ => none
 | k + 1, x0, x1, x15 => if x15 = true then (some false) else (if (wrap64 (x0 + (x1.length : Int))) > 1000 then (some false) else ((spec_l4plain.f k x1).bind fun t232 => (if t232 = true then ((spec_l4bytes.f k x1).bind fun t233 => (some (decide (t233 ≤ 20000)))) else (some false))))
def spec_l4fits.f (k : Nat) (a0 : Int) (l1 : List (List Int)) : Option (Bool) := if a0 < 0 then (spec_l4fits.j0 k a0 l1 true) else (if a0 > 1000 then (spec_l4fits.j0 k a0 l1 true) else (spec_l4fits.j0 k a0 l1 (decide ((l1.length : Int) < 1))))
theorem spec_l4fits.mono_l : ∀ k, (∀ y0 y1 y2, LeO (spec_l4fits.j0 k y0 y1 y2) (spec_l4fits.j0 (k + 1) y0 y1 y2))
 | 0 => fun _ _ _ r h => by simp [spec_l4fits.j0] at h
 | k + 1 => by
  have ih0 := spec_l4fits.mono_l k
  ·intro y0 y1 y2
   unfold spec_l4fits.j0
   repeat' first
   | (with_reducible exact ih0 _ _ _)
   | (with_reducible exact spec_l4bytes.mono _ _)
   | (with_reducible exact spec_l4plain.mono _ _)
   | (with_reducible exact LeO.refl _)
   | (with_reducible exact LeO.none _)
   | (with_reducible refine LeO.ite ?_ ?_)
   | (with_reducible refine LeO.bind ?_ (fun _ => ?_))
   | exact ih0 _ _ _
   | exact spec_l4bytes.mono _ _
   | exact spec_l4plain.mono _ _
   | exact LeO.none _
   | refine LeO.ite ?_ ?_
   | refine LeO.bind ?_ (fun _ => ?_)
theorem spec_l4fits.mono : ∀ a0 a1 k, LeO (spec_l4fits.f k a0 a1) (spec_l4fits.f (k + 1) a0 a1) := by
 intro a0 a1 k
 have ih0 := spec_l4fits.mono_l k
 unfold spec_l4fits.f
 repeat' first
   | (with_reducible exact ih0 _ _ _)
   | (with_reducible exact spec_l4bytes.mono _ _)
   | (with_reducible exact spec_l4plain.mono _ _)
   | (with_reducible exact LeO.refl _)
   | (with_reducible exact LeO.none _)
   | (with_reducible refine LeO.ite ?_ ?_)
   | (with_reducible refine LeO.bind ?_ (fun _ => ?_))
   | exact ih0 _ _ _
   | exact spec_l4bytes.mono _ _
   | exact spec_l4plain.mono _ _
   | exact LeO.none _
   | refine LeO.ite ?_ ?_
   | refine LeO.bind ?_ (fun _ => ?_)
set_option maxHeartbeats 8000000 in
set_option maxRecDepth 100000 in
theorem spec_l4fits.calls (k : Nat) (a0 : Int) (A1 : Option Addr) (c1 : Nat) (l1 : List (List Int)) (r : Bool) (w : World) (hr1 : Kd.C (Kd.slice 5 (Kd.int .u8)) w A1 l1.length l1) (hc1 : l1.length ≤ c1) (h : spec_l4fits.f k a0 l1 = some r) :
  Calls Try.prog 91 #[.int .i64 a0, .slice A1 l1.length c1] w fun e w' => e = .returned (.bool r) ∧ Drawn0 w w' := by
 have HR1 := zA hr1
 have HC1 := zA hc1
 clear hr1 hc1
 have H : (if a0 < 0 then (spec_l4fits.j0 k a0 l1 true) else (if a0 > 1000 then (spec_l4fits.j0 k a0 l1 true) else (spec_l4fits.j0 k a0 l1 (decide ((l1.length : Int) < 1))))) = some r := h
 clear h
 have HC3 := zA H
 clear H
 go_enter Try.func91, Try.ntmps91
 go_upto_region 1 with (fail)
 go_cut [15] (fun v15 wc => ∃ (kq : Nat) (x15_2 : Bool), v15 = .bool x15_2 ∧ Aside0 (spec_l4fits.j0 kq a0 l1 x15_2 = some r) ∧ Aside0 (kq ≤ k) ∧ Drawn0 w wc)
 case first =>
  have H := HC3.out
  clear HC3
  by_cases c4 : a0 < 0
  ·rw [if_pos c4] at H
   have c4b0 : decide (a0 < 0) = true := decide_eq_true c4
   clear c4
   (first | rw [c4b0] | (simp only [i64_w, i32_w]; rw [c4b0]) | skip)
   have H' := zA H
   clear H
   go_wp2
   go_meet
   case rel => exact ⟨_, (true), zq6, H', ⟨by first | omega | exact Nat.le_refl _⟩, zq10⟩
  ·rw [if_neg c4] at H
   have c4b0 : decide (a0 < 0) = false := decide_eq_false c4
   clear c4
   (first | rw [c4b0] | (simp only [i64_w, i32_w]; rw [c4b0]) | skip)
   by_cases c5 : a0 > 1000
   ·rw [if_pos c5] at H
    have c5b0 : decide (1000 < a0) = true := decide_eq_true c5
    clear c5
    have H' := zA H
    clear H
    go_wp2
    go_meet
    case rel => exact ⟨_, (true), zq6, H', ⟨by first | omega | exact Nat.le_refl _⟩, zq10⟩
   ·rw [if_neg c5] at H
    have c5b0 : decide (1000 < a0) = false := decide_eq_false c5
    clear c5
    have H' := zA H
    clear H
    go_wp2
    go_meet
    case rel => exact ⟨_, (decide ((l1.length : Int) < 1)), zq6, H', ⟨by first | omega | exact Nat.le_refl _⟩, zq10⟩
 case rest =>
  clear HC3
  try clear c1
  try clear p2
  try clear c4
  try clear c4b0
  try clear c5
  try clear c5b0
  obtain ⟨kq, x15_2, rfl, HA, HJ2, ⟨mc2, rfl⟩⟩ := hcut
  cases kq with
  | zero => exact absurd HA.out (by simp [spec_l4fits.j0])
  | succ kj2 =>
   have H := HA.out
   clear HA
   simp only [spec_l4fits.j0] at H
   by_cases c6 : x15_2 = true
   ·subst c6
    have H1 : (some false) = some r := by rw [if_pos rfl] at H; exact H
    clear H
    have H := H1
    clear H1
    obtain rfl := Option.some.inj H
    go_wp2
    go_ret
    exact ⟨zq6, zq10⟩
   ·replace c6 := Bool.eq_false_iff.mpr c6
    subst c6
    have H1 : (if (wrap64 (a0 + (l1.length : Int))) > 1000 then (some false) else ((spec_l4plain.f kj2 l1).bind fun t232 => (if t232 = true then ((spec_l4bytes.f kj2 l1).bind fun t233 => (some (decide (t233 ≤ 20000)))) else (some false)))) = some r := by rw [if_neg (show ¬ (false = true) by decide)] at H; exact H
    clear H
    have H := H1
    clear H1
    by_cases c7 : (wrap64 (a0 + (l1.length : Int))) > 1000
    ·rw [if_pos c7] at H
     have c7b0 : decide (1000 < (wrap64 (a0 + (l1.length : Int)))) = true := decide_eq_true c7
     clear c7
     obtain rfl := Option.some.inj H
     go_wp2
     go_ret
     exact ⟨zq6, zq10⟩
    ·rw [if_neg c7] at H
     have c7b0 : decide (1000 < (wrap64 (a0 + (l1.length : Int)))) = false := decide_eq_false c7
     clear c7
     replace H := Option.bind_eq_some_iff.mp H
     obtain ⟨t232, A80, H⟩ := H
     replace H : (if t232 = true then ((spec_l4bytes.f kj2 l1).bind fun t233 => (some (decide (t233 ≤ 20000)))) else (some false)) = some r := H
     have A8 := zA A80
     clear A80
     by_cases c9 : t232 = true
     ·subst c9
      have H1 : ((spec_l4bytes.f kj2 l1).bind fun t233 => (some (decide (t233 ≤ 20000)))) = some r := by rw [if_pos rfl] at H; exact H
      clear H
      have H := H1
      clear H1
      replace H := Option.bind_eq_some_iff.mp H
      obtain ⟨t233, A100, H⟩ := H
      replace H : (some (decide (t233 ≤ 20000))) = some r := H
      have A10 := zA A100
      clear A100
      obtain rfl := Option.some.inj H
      go_wp2_with (first | (go_at_call 133; (with_reducible refine (spec_l4plain.calls kj2 _ _ l1 true _ ?side1 ?side2 A8.out).mono ?_); (case side1 => repeat (first | exact HR1.out | (with_reducible refine Kd.C_alloc ?_ _) | (with_reducible refine Kd.C_drewN ?_ _) | (with_reducible refine Kd.C_drew ?_))); (case side2 => exact HC1.out); rintro e w' ⟨rfl, ⟨nd, rfl⟩⟩) | ((with_reducible refine gate_callee (f := 107) rfl ?_); refine goesL_ (some 27) rfl rfl Try.func107 zq12 rfl #[.slice A1 l1.length c1] rfl zq2 ?_; (with_reducible refine (spec_l4bytes.calls kj2 _ _ l1 t233 _ ?side1 ?side2 A10.out).mono ?_); (case side1 => repeat (first | exact HR1.out | (with_reducible refine Kd.C_alloc ?_ _) | (with_reducible refine Kd.C_drewN ?_ _) | (with_reducible refine Kd.C_drew ?_))); (case side2 => exact HC1.out); rintro e w' ⟨rfl, ⟨nd, rfl⟩⟩; refine ⟨_, rfl, ?_⟩))
      go_ret
      exact ⟨zq6, zq10⟩
     ·replace c9 := Bool.eq_false_iff.mpr c9
      subst c9
      have H1 : (some false) = some r := by rw [if_neg (show ¬ (false = true) by decide)] at H; exact H
      clear H
      have H := H1
      clear H1
      obtain rfl := Option.some.inj H
      go_wp2_with (first | (go_at_call 133; (with_reducible refine (spec_l4plain.calls kj2 _ _ l1 false _ ?side1 ?side2 A8.out).mono ?_); (case side1 => repeat (first | exact HR1.out | (with_reducible refine Kd.C_alloc ?_ _) | (with_reducible refine Kd.C_drewN ?_ _) | (with_reducible refine Kd.C_drew ?_))); (case side2 => exact HC1.out); rintro e w' ⟨rfl, ⟨nd, rfl⟩⟩))
      go_ret
      exact ⟨zq6, zq10⟩
def spec_l4copy.l0 : Nat → List (List Int) → List (List Int) → Int → Option ((List (List Int)))
 | 0, _, _, _ => none
 | k + 1, x0, x3, x4 => if x4 < (x0.length : Int) then (if 0 ≤ x4 then (if ([] : List Int).length + (rd_L1 x0 x4).length < 140737488355328 then (if x3.length < 5864062014805 then (spec_l4copy.l0 k x0 (x3 ++ [(([] : List Int) ++ (rd_L1 x0 x4))]) (wrap64 (x4 + 1))) else (none)) else (none)) else (none)) else (some x3)
def spec_l4copy.f (k : Nat) (l0 : List (List Int)) : Option ((List (List Int))) := spec_l4copy.l0 k l0 ([] : List (List Int)) 0
theorem spec_l4copy.mono_l : ∀ k, (∀ y0 y1 y2, LeO (spec_l4copy.l0 k y0 y1 y2) (spec_l4copy.l0 (k + 1) y0 y1 y2))
 | 0 => fun _ _ _ r h => by simp [spec_l4copy.l0] at h
 | k + 1 => by
  have ih0 := spec_l4copy.mono_l k
  ·intro y0 y1 y2
   unfold spec_l4copy.l0
   repeat' first
   | (with_reducible exact ih0 _ _ _)
   | (with_reducible exact LeO.refl _)
   | (with_reducible exact LeO.none _)
   | (with_reducible refine LeO.ite ?_ ?_)
   | (with_reducible refine LeO.bind ?_ (fun _ => ?_))
   | exact ih0 _ _ _
   | exact LeO.none _
   | refine LeO.ite ?_ ?_
   | refine LeO.bind ?_ (fun _ => ?_)
theorem spec_l4copy.mono : ∀ a0 k, LeO (spec_l4copy.f k a0) (spec_l4copy.f (k + 1) a0) := by
 intro a0 k
 have ih0 := spec_l4copy.mono_l k
 unfold spec_l4copy.f
 repeat' first
   | (with_reducible exact ih0 _ _ _)
   | (with_reducible exact LeO.refl _)
   | (with_reducible exact LeO.none _)
   | (with_reducible refine LeO.ite ?_ ?_)
   | (with_reducible refine LeO.bind ?_ (fun _ => ?_))
   | exact ih0 _ _ _
   | exact LeO.none _
   | refine LeO.ite ?_ ?_
   | refine LeO.bind ?_ (fun _ => ?_)
set_option maxHeartbeats 8000000 in
set_option maxRecDepth 100000 in
theorem spec_l4copy.calls (k : Nat) (A0 : Option Addr) (c0 : Nat) (l0 : List (List Int)) (r : List (List Int)) (w : World) (hr0 : Kd.C (Kd.slice 5 (Kd.int .u8)) w A0 l0.length l0) (hc0 : l0.length ≤ c0) (h : spec_l4copy.f k l0 = some r) :
  Calls Try.prog 134 #[.slice A0 l0.length c0] w fun e w' => ∃ v0_ : Value, e = .returned (v0_) ∧ Kd.S (Kd.slice 5 (Kd.int .u8)) 33 w' w.heap.size (fun _ => True) v0_ r ∧ Below w.heap.size w w' := by
 have HR0 := zA hr0
 have HC0 := zA hc0
 clear hr0 hc0
 have HB := zA (Below.refl w.heap.size w)
 have H : (spec_l4copy.l0 k l0 ([] : List (List Int)) 0) = some r := h
 clear h
 have H' := zA H
 clear H
 go_enter Try.func134, Try.ntmps134
 go_wp2
 go_loopg [3, 4] k (fun kq v3 v4 w' => ∃ (x3_1 : List (List Int)) (x4_1 : Int), v4 = .int .i64 x4_1 ∧ Aside0 (spec_l4copy.l0 kq l0 x3_1 x4_1 = some r) ∧ Aside0 (kq ≤ k) ∧ Aside0 (Kd.S (Kd.slice 5 (Kd.int .u8)) 33 w' w.heap.size (fun _ => True) v3 x3_1) ∧ Aside0 (Below w.heap.size w w'))
 case atStart => exact ⟨(([] : List (List Int))), (0), zq6, H', ⟨Nat.le_refl _⟩, ⟨zq16⟩, ⟨zq0⟩⟩
 case round =>
  clear H'
  try clear c1
  obtain ⟨x3_1, x4_1, rfl, HA, HK1, HO_3, HB⟩ := hrel
  cases gk with
  | zero => exact absurd HA.out (by simp [spec_l4copy.l0])
  | succ k1 =>
   have H := HA.out
   clear HA
   simp only [spec_l4copy.l0] at H
   by_cases c2 : x4_1 < (l0.length : Int)
   ·rw [if_pos c2] at H
    have c2b0 : decide (x4_1 < (l0.length : Int)) = true := decide_eq_true c2
    clear c2
    by_cases c3 : 0 ≤ x4_1
    ·rw [if_pos c3] at H
     have c3b0 : decide (0 ≤ x4_1) = true := decide_eq_true c3
     clear c3
     by_cases c4 : ([] : List Int).length + (rd_L1 l0 x4_1).length < 140737488355328
     ·rw [if_pos c4] at H
      have LMc4 := zA c4
      clear c4
      obtain ⟨y235, hy235⟩ : ∃ y_ : List Int, y_ = (([] : List Int) ++ (rd_L1 l0 x4_1)) := ⟨_, rfl⟩
      replace H : (if x3_1.length < 5864062014805 then (spec_l4copy.l0 k1 l0 (x3_1 ++ [y235]) (wrap64 (x4_1 + 1))) else (none)) = some r := by first | (rw [hy235]; with_reducible exact H) | (have H2_ := (Option.bind_some _ _).symm.trans H; rw [hy235]; with_reducible exact H2_) | (have H2_ := (Option.bind_some _ _).symm.trans H; with_reducible exact H2_) | with_reducible exact H | (rw [hy235]; exact H) | exact H
      have Ny235 := zA hy235
      clear hy235
      by_cases c5 : x3_1.length < 5864062014805
      ·rw [if_pos c5] at H
       have LMc5 := zA c5
       clear c5
       obtain ⟨y238, hy238⟩ : ∃ y_ : List (List Int), y_ = (x3_1 ++ [y235]) := ⟨_, rfl⟩
       replace H : (spec_l4copy.l0 k1 l0 y238 (wrap64 (x4_1 + 1))) = some r := by first | (rw [hy238]; with_reducible exact H) | (have H2_ := (Option.bind_some _ _).symm.trans H; rw [hy238]; with_reducible exact H2_) | (have H2_ := (Option.bind_some _ _).symm.trans H; with_reducible exact H2_) | with_reducible exact H | (rw [hy238]; exact H) | exact H
       have Ny238 := zA hy238
       clear hy238
       have H' := zA H
       clear H
       have p234 : 0 ≤ (x4_1 : Int) := of_decide_eq_true zq4
       have q234 : x4_1 < (l0.length : Int) := of_decide_eq_true zq4
       obtain ⟨ad234, A234_0, c234_0, e234, hx234_0, hl234_0, hi234_0⟩ := at_L1 HR0.out x4_1 p234 q234
       cases e234
       replace hx234_0 := (HB.out.cell (World.block_lt_of_cell? w _ hx234_0)).trans hx234_0
       have HR234_0 := zA hi234_0
       have HC234_0 := zA hl234_0
       clear hi234_0 hl234_0
       replace p234 := eq_true p234
       replace q234 := eq_true q234
       go_wp2_with (first | ((with_reducible refine gate_builtin (b := .append) (xs := #[.tmp 12, .tmp 16]) rfl ?_); at_builtin; refine Kd.R_append_rows (Kd.int .u8) (w0 := w) w.heap.size rfl (.tmp 12) (.tmp 16) 33 5 (.int .u8 0) 1 rfl Try.underlying33 info5 rfl zq13 zq3 (.slice none 0 0) ([] : List Int) (rd_L1 l0 x4_1) _ _ _ (fun _ => True) (fun _ => False) rfl rfl ?aO ?aR (fun _ _ h => h) (fun _ h => h.elim) ?aF ?aB ?aS ?aL ?_; (case aR => repeat (first | exact (Kd.C_below HR234_0.out HB.out) | (with_reducible refine Kd.C_alloc ?_ _) | (with_reducible refine Kd.C_drewN ?_ _) | (with_reducible refine Kd.C_drew ?_))); (case aB => exact zq0); (case aF => exact (fun _ _ => trivial)); (case aO => exact ((Kd.R_nil _ _ _ _ (fun _ => True)))); (case aS => exact (below_size zq0)); (case aL => have := LMc4.out; omega); intro v236 w6 ho hb hg hat; rw [← Ny235.out] at ho; have n0_ := zA (Kd.S_after (Kd.S_apart_nil (by (with_reducible repeat (first | apply Kd.S_alloc | apply Kd.S_drewN | apply Kd.S_drew)); exact HO_3.out)) hg hat); have n1_ := zA (hb); have n2_ := zA (ho); clear HO_3; clear HB; have HO_3 := n0_; have HB := n1_; have HO237 := n2_; clear n0_ n1_ n2_; clear ho hb hg hat; obtain ⟨Ao8, co8, eo8⟩ := Kd.R_slice HO237.out; subst eo8) | ((with_reducible refine gate_builtin (b := .append) (xs := #[.tmp 18, .tmp 20]) rfl ?_); at_builtin; refine Kd.S_append (Kd.slice 5 (Kd.int .u8)) (w0 := w) w.heap.size rfl (.tmp 18) (.tmp 20) 41 33 (.slice none 0 0) 24 rfl Try.underlying41 info33 rfl zq13 zq3 u3 x3_1 y235 [.slice Ao8 y235.length co8] (fun _ => True) (fun k_ => some k_ = (.slice Ao8 y235.length co8 : Value).ownBlock) rfl rfl ?aP (fun k_ hk_ => ((Kd.R_mono (ok' := fun k_ => ((fun _ => True)) k_ ∧ some k_ ≠ (u3 : Value).ownBlock) (Kd.R_apart' (HO237.out) (Kd.S_typed HO_3.out) zq13) (fun k_ hk => ⟨trivial, hk.2⟩))).1 k_ hk_.symm) ?aF ?aO ?aB ?aS ?aL ?_; (case aP => exact Kd.M_row (Kd.R_mono (Kd.R_tight rfl (Kd.R_mono (ok' := fun k_ => ((fun _ => True)) k_ ∧ some k_ ≠ (u3 : Value).ownBlock) (Kd.R_apart' (HO237.out) (Kd.S_typed HO_3.out) zq13) (fun k_ hk => ⟨trivial, hk.2⟩))) (fun _ h_ => h_))); (case aB => exact zq0); (case aF => exact (fun _ _ => trivial)); (case aO => exact (by (with_reducible repeat (first | apply Kd.S_alloc | apply Kd.S_drewN | apply Kd.S_drew)); exact Kd.S_mono HO_3.out (fun k_ hk => ⟨trivial, fun e_ => hk.2 e_⟩))); (case aS => exact (below_size zq0)); (case aL => have := LMc5.out; omega); intro v239 w7 ho hb hg hat; rw [← Ny238.out] at ho; have n0_ := zA (hb); have n1_ := zA (ho); clear HB; clear HO_3; clear HO237; have HB := n0_; have HO240 := n1_; clear n0_ n1_; clear ho hb hg hat))
       go_roundg k1
       case measure => have := HK1.out; omega
       case rel => exact ⟨(y238), (wrap64 (x4_1 + 1)), zq6, H', ⟨zq39⟩, ⟨by (with_reducible repeat (first | apply Kd.S_alloc | apply Kd.S_drewN | apply Kd.S_drew)); exact HO240.out⟩, ⟨zq0⟩⟩
      ·rw [if_neg c5] at H
       exact absurd H zq14
     ·rw [if_neg c4] at H
      exact absurd H zq14
    ·rw [if_neg c3] at H
     exact absurd H zq14
   ·rw [if_neg c2] at H
    have c2b0 : decide (x4_1 < (l0.length : Int)) = false := decide_eq_false c2
    clear c2
    obtain rfl := Option.some.inj H
    go_wp2
    go_ret
    exact ⟨_, zq9, by (with_reducible repeat (first | apply Kd.S_alloc | apply Kd.S_drewN | apply Kd.S_drew)); exact HO_3.out, zq0⟩
end Go.Proofs.Ytmgmdnmfalepkaa.L
