/- Parts of the proof (see the row's own text): PEnc, PSum, Lsame, PVal, PDec, PSta, HelpSeg, Shelf, BuildA, PSort, SortI, Iter. -/
import Derived.Test.YtmgmdnmfalepkaaGreatG00
import Derived.Test.YtmgmdnmfalepkaaGreatG9
import Derived.Test.YtmgmdnmfalepkaaGreatG10
import Derived.Laws.BitsLemmas
import Derived.Test.YtmgmdnmfalepkaaGreatG4
import Derived.Test.YtmgmdnmfalepkaaGreatG5
import Derived.Shelf.Small.Bits
import Derived.Shelf.Small.Wraps
import Derived.Shelf.Strconv.Itoa0
import Derived.Shelf.Strings.Search1
import Derived.Shelf.Sort.Plain
import Derived.Shelf.Slices.Equal
import Derived.Ground.Names2Prog
import Derived.Shelf.Slices.CompactI
import Derived.Shelf.Slices.SearchI
import Derived.Shelf.Slices.Cells
import Derived.Shelf.Slices.In.SortNone
import Derived.Shelf.Bytes.SlIndexSmall
import Derived.Shelf.Bytes.SlIndexAt
import Derived.Shelf.Slices.Empties2
import Derived.Shelf.Bytes.SlSearch0
import Derived.Shelf.Bytes.SlSearch1
import Derived.Shelf.Bytes.SlSearch2
import Derived.Shelf.Bytes.SlIndexWhole
import Derived.Shelf.LaysM
import Derived.Ground.SlbCloneProg
import Derived.Shelf.Bytes.SlClone
import Derived.Shelf.Bytes.SlEqualAll
import Derived.Ground.SlbtProg
import Derived.Shelf.Bytes.SlCut
import Derived.Shelf.Bytes.Small
import Derived.Shelf.Bytes.IndexByte
import Derived.Test.YtmgmdnmfalepkaaGreatProg
import Derived.Test.YtmgmdnmfalepkaaGreatG2
import Derived.Deep.RegionLaw
import Derived.Deep.RegionHeld3
import Derived.Deep.AppendLies
import Derived.Lib.BytesEntry
import Derived.Lib.SlicesCompact
import Derived.Sort.OwnSortedInts
import Derived.Shelf.SlIterI.Nil
import Derived.Ground.GgzProg
namespace Go.Proofs.YtmgmdnmfalepkaaGreat.PEnc
open Go.RowKit Go.Proofs.YtmgmdnmfalepkaaGreatW.PrintWords Go.Proofs.YtmgmdnmfalepkaaGreat.PKit Go.Proofs.YtmgmdnmfalepkaaGreat.POrd Go.Proofs.YtmgmdnmfalepkaaGreat.PTri Go.Proofs.YtmgmdnmfalepkaaGreat.PSeg Go.Proofs.YtmgmdnmfalepkaaGreat.L Go.Proofs.YtmgmdnmfalepkaaGreat.HelpBB
set_option linter.unusedVariables false
def varint (n : Nat) : List Int := if h : n < 128 then [(n : Int)] else ((n % 128 + 128 : Nat) : Int) :: varint (n / 128)
termination_by n
decreasing_by omega
theorem varint_lt {n : Nat} (h : n < 128) : varint n = [(n : Int)] := by rw [varint, dif_pos h]
theorem varint_ge {n : Nat} (h : ¬ n < 128) : varint n = ((n % 128 + 128 : Nat) : Int) :: varint (n / 128) := by
 conv => lhs; rw [varint]
 rw [dif_neg h]
theorem varint_len : ∀ (k n : Nat), n < 128 ^ (k + 1) → (varint n).length ≤ k + 1 := by
 intro k
 induction k with
 | zero =>
  intro n hn
  rw [varint_lt (by simpa using hn)]
  simp
 | succ k ih =>
  intro n hn
  by_cases h : n < 128
  ·rw [varint_lt h]
   simp
  ·rw [varint_ge h]
   have := ih (n / 128) (by rw [Nat.div_lt_iff_lt_mul zq15]; rw [Nat.pow_succ] at hn; exact hn)
   simp only [List.length_cons]
   omega
theorem varint_len10 {n : Nat} (h : n < 4611686018427387904) : (varint n).length ≤ 9 := varint_len 8 n zq1
theorem varint_bytes (n : Nat) : ∀ x ∈ varint n, 0 ≤ x ∧ x ≤ 255 := by
 induction n using Nat.strongRecOn with
 | _ n ih =>
  intro x hx
  by_cases h : n < 128
  ·rw [varint_lt h] at hx
   rw [List.mem_singleton.1 hx]
   omega
  ·rw [varint_ge h] at hx
   rcases List.mem_cons.1 hx with e | hx
   ·rw [e]
    omega
   ·exact ih (n / 128) zq1 x hx
theorem varint_ev : ∀ (n : Nat), n < 4611686018427387904 → Ev (fun k => spec_l4varint.f k (n : Int)) (varint n) := by
 intro n
 induction n using Nat.strongRecOn with
 | _ n ih =>
  intro hn
  by_cases h : n < 128
  ·rw [varint_lt h]
   refine Ev.step (f := fun _ => some [(n : Int)]) (fun k => ?_) (Ev.now _)
   simp only [spec_l4varint.f]
   rw [if_pos zq1]
   congr 2
   omega
  ·have hd : wrap64 (Int.tdiv (n : Int) 128) = ((n / 128 : Nat) : Int) := by
    rw [wrap_in (by have h1 : Int.tdiv (n : Int) 128 = ((n / 128 : Nat) : Int) := rfl; rw [h1]; omega)]
    rfl
   have hm : wrap64 (Int.tmod (n : Int) 128 + 128) = ((n % 128 + 128 : Nat) : Int) := by
    have h1 : Int.tmod (n : Int) 128 = ((n % 128 : Nat) : Int) := rfl
    rw [h1, wrap_in zq1]
    omega
   have hl := varint_len10 (n := n / 128) zq1
   rw [varint_ge h]
   refine Ev.step (f := fun k => (spec_l4varint.f k ((n / 128 : Nat) : Int)).bind fun t330 => (if [((n % 128 + 128 : Nat) : Int)].length + t330.length < 140737488355328 then (some ([((n % 128 + 128 : Nat) : Int)] ++ t330)) else none)) (fun k => ?_) (Ev.bind (ih (n / 128) zq1 zq1) ?_)
   ·simp only [spec_l4varint.f]
    rw [if_neg zq1, hm, hd, Option.bind_some, show ((n % 128 + 128 : Nat) : Int) % 256 = ((n % 128 + 128 : Nat) : Int) by omega]
   ·refine Ev.congr (f := fun _ => some _) (fun k => ?_) (Ev.now _)
    rw [if_pos (by simp only [List.length_singleton]; omega)]
    rfl
def gap (K : List Int) (j : Nat) : Int := if j = 0 then K.getD 0 0 else K.getD j 0 - K.getD (j - 1) 0
def del (b : Int) (P : List Int) (i : Nat) : Int := if i = 0 then P.getD 0 0 - b else P.getD i 0 - P.getD (i - 1) 0
def flat (f : Nat → List Int) (n : Nat) : List Int := (List.range n).flatMap f
theorem flat_succ (f : Nat → List Int) (n : Nat) : flat f (n + 1) = flat f n ++ f n := by simp [flat, List.range_succ]
theorem flat_len {f : Nat → List Int} {m : Nat} : ∀ n, (∀ i, i < n → (f i).length ≤ m) → (flat f n).length ≤ n * m := by
 intro n
 induction n with
 | zero => intro _; simp [flat]
 | succ n ih =>
  intro h
  rw [flat_succ, List.length_append, Nat.add_mul]
  have h1 := ih (fun i hi => h i zq1)
  have h2 := h n zq1
  omega
def line (ls : List (List Int)) (i : Nat) : List Int := varint (ls.getD i []).length ++ ls.getD i []
def dels (b : Int) (P : List Int) (n : Nat) : List Int := flat (fun i => varint (del b P i).toNat) n
def grp (b : Int) (K : List Int) (Ps : List (List Int)) (j : Nat) : List Int := varint (gap K j).toNat ++ varint (Ps.getD j []).length ++ dels b (Ps.getD j []) (Ps.getD j []).length
def head (b : Int) (ls : List (List Int)) : List Int := [84, 71] ++ varint b.toNat ++ varint ls.length
def body (s : SegT) : List Int := head s.1 s.2.1 ++ flat (line s.2.1) s.2.1.length ++ varint s.2.2.1.length ++ flat (grp s.1 s.2.2.1 s.2.2.2) s.2.2.1.length
structure EncOk (s : SegT) : Prop where
 b0 : 0 ≤ s.1
 b1 : s.1 ≤ 1000
 l1 : s.2.1.length ≤ 1000
 t1 : totalB s.2.1 ≤ 20000
 k1 : s.2.2.1.length ≤ 20000
 pk : s.2.2.2.length = s.2.2.1.length
 p1 : ∀ j, (s.2.2.2.getD j []).length ≤ 1000
 g1 : ∀ j, j < s.2.2.1.length → 0 ≤ gap s.2.2.1 j ∧ gap s.2.2.1 j ≤ 16777216
 d1 : ∀ j i, j < s.2.2.1.length → i < (s.2.2.2.getD j []).length → 0 ≤ del s.1 (s.2.2.2.getD j []) i ∧ del s.1 (s.2.2.2.getD j []) i ≤ 1000
 kb : ∀ j, -9223372036854775808 ≤ s.2.2.1.getD j 0 ∧ s.2.2.1.getD j 0 ≤ 9223372036854775807
theorem line_len (ls : List (List Int)) (i : Nat) (h : totalB ls ≤ 20000) : (line ls i).length ≤ 20010 := by
 have h1 := getD_len ls i
 have h2 := varint_len10 (n := (ls.getD i []).length) zq1
 unfold line
 rw [List.length_append]
 omega
theorem dels_len {b : Int} {P : List Int} {n : Nat} (h : ∀ i, i < n → del b P i ≤ 1000) : (dels b P n).length ≤ n * 9 :=
 flat_len n (fun i hi => varint_len10 (by have := h i hi; omega))
theorem head_len {b : Int} {ls : List (List Int)} (h : b ≤ 1000) (h2 : ls.length ≤ 1000) : (head b ls).length ≤ 20 := by
 have h3 := varint_len10 (n := b.toNat) zq1
 have h4 := varint_len10 (n := ls.length) zq1
 unfold head
 simp only [List.length_append, List.length_cons, List.length_nil]
 omega
theorem grp_len {s : SegT} (h : EncOk s) (j : Nat) (hj : j < s.2.2.1.length) : (grp s.1 s.2.2.1 s.2.2.2 j).length ≤ 9018 := by
 have h1 := varint_len10 (n := (gap s.2.2.1 j).toNat) (by have := (h.g1 j hj).2; omega)
 have h2 := varint_len10 (n := (s.2.2.2.getD j []).length) (by have := h.p1 j; omega)
 have h3 := dels_len (b := s.1) (P := s.2.2.2.getD j []) (n := (s.2.2.2.getD j []).length) (fun i hi => (h.d1 j i hj hi).2)
 have h4 := h.p1 j
 unfold grp
 simp only [List.length_append]
 omega
theorem lines_len {s : SegT} (h : EncOk s) (i : Nat) (hi : i ≤ s.2.1.length) : (flat (line s.2.1) i).length ≤ 20010000 := by
 have h1 := flat_len (f := line s.2.1) i (fun j _ => line_len s.2.1 j h.t1)
 have h2 := h.l1
 have h3 : i * 20010 ≤ 1000 * 20010 := Nat.mul_le_mul_right _ zq1
 omega
theorem grps_len {s : SegT} (h : EncOk s) (j : Nat) (hj : j ≤ s.2.2.1.length) : (flat (grp s.1 s.2.2.1 s.2.2.2) j).length ≤ 180360000 := by
 have h1 := flat_len (f := grp s.1 s.2.2.1 s.2.2.2) (m := 9018) j (fun i hi => grp_len h i zq1)
 have h2 := h.k1
 have h3 : j * 9018 ≤ 20000 * 9018 := Nat.mul_le_mul_right _ zq1
 omega
theorem body_ev (s : SegT) (h : EncOk s) : Ev (fun k => spec_l4body.f k s.1 s.2.1 s.2.2.1 s.2.2.2) (body s) := by
 obtain ⟨b, ls, K, Ps⟩ := s
 have hb0 : 0 ≤ b := h.b0
 have hb1 : b ≤ 1000 := h.b1
 have hl1 : ls.length ≤ 1000 := h.l1
 have ht1 : totalB ls ≤ 20000 := h.t1
 have hk1 : K.length ≤ 20000 := h.k1
 have hpk : Ps.length = K.length := h.pk
 have hhl : (head b ls).length ≤ 20 := head_len hb1 hl1
 have rdL : ∀ i : Nat, rd_L1 ls (i : Int) = ls.getD i [] := fun i => rfl
 have rdP : ∀ i : Nat, rd_L3 Ps (i : Int) = Ps.getD i [] := fun i => rfl
 have hll : (flat (line ls) ls.length).length ≤ 20010000 := lines_len h ls.length (Nat.le_refl _)
 have hkl := varint_len10 (n := K.length) zq1
 have L2 : ∀ (j : Nat) (o : List Int), j < K.length → o.length ≤ 300000000 → Ev (fun k => spec_l4body.l1 k (o ++ dels b (Ps.getD j []) (Ps.getD j []).length) ((j + 1 : Nat) : Int) b ls K Ps) (body (b, ls, K, Ps)) →
   ∀ (d i : Nat), i + d = (Ps.getD j []).length → Ev (fun k => spec_l4body.l2 k (o ++ dels b (Ps.getD j []) i) (j : Int) (i : Int) b ls K Ps) (body (b, ls, K, Ps)) := by
  intro j o hj ho hnext d
  have hp1 : (Ps.getD j []).length ≤ 1000 := h.p1 j
  have hd1 : ∀ i, i < (Ps.getD j []).length → 0 ≤ del b (Ps.getD j []) i ∧ del b (Ps.getD j []) i ≤ 1000 := fun i hi => h.d1 j i hj hi
  have hrd := rdP j
  generalize Ps.getD j [] = P at hnext hp1 hd1 hrd ⊢
  induction d with
  | zero =>
   intro i hd
   obtain rfl : i = P.length := by omega
   refine Ev.step (fun k => ?_) hnext
   simp only [spec_l4body.l2]
   rw [if_pos zq1, if_pos zq1, hrd, if_neg zq1, wrap_succ j zq1]
  | succ d ih =>
   intro i hd
   have hr := ih (i + 1) zq1
   have hsucc : dels b P (i + 1) = dels b P i ++ varint (del b P i).toNat := flat_succ _ _
   obtain ⟨d0, d1⟩ := hd1 i zq1
   have hv := varint_ev (del b P i).toNat zq1
   rw [Int.toNat_of_nonneg d0] at hv
   have hvl := varint_len10 (n := (del b P i).toNat) zq1
   have hdl := dels_len (b := b) (P := P) (n := i) (fun q hq => (hd1 q zq1).2)
   have hcond : (o ++ dels b P i).length + (varint (del b P i).toNat).length < 140737488355328 := by rw [List.length_append]; omega
   rw [hsucc, ← List.append_assoc] at hr
   by_cases h0 : i = 0
   ·subst h0
    have hdel : del b P 0 = P.getD 0 0 - b := rfl
    rw [hdel] at hv d0 d1 hcond hr
    refine Ev.step (f := fun k => (spec_l4varint.f k (P.getD 0 0 - b)).bind fun t397 => (if (o ++ dels b P 0).length + t397.length < 140737488355328 then (spec_l4body.l2 k ((o ++ dels b P 0) ++ t397) (j : Int) ((0 + 1 : Nat) : Int) b ls K Ps) else none)) (fun k => ?_) (Ev.bind hv (Ev.congr (fun k => if_pos hcond) hr))
    simp only [spec_l4body.l2]
    rw [if_pos zq1, if_pos zq1, hrd, if_pos zq1, if_neg zq1, if_pos zq1, rd_at, wrap_in zq1, wrap_succ 0 zq1]
   ·have hdel : del b P i = P.getD i 0 - P.getD (i - 1) 0 := if_neg h0
    rw [hdel] at hv d0 d1 hcond hr
    have hw : wrap64 ((i : Int) - 1) = ((i - 1 : Nat) : Int) := by rw [wrap_in zq1]; omega
    refine Ev.step (f := fun k => (spec_l4varint.f k (P.getD i 0 - P.getD (i - 1) 0)).bind fun t389 => (if (o ++ dels b P i).length + t389.length < 140737488355328 then (spec_l4body.l2 k ((o ++ dels b P i) ++ t389) (j : Int) ((i + 1 : Nat) : Int) b ls K Ps) else none)) (fun k => ?_) (Ev.bind hv (Ev.congr (fun k => if_pos hcond) hr))
    simp only [spec_l4body.l2]
    rw [if_pos zq1, if_pos zq1, hrd, if_pos zq1, if_pos zq1, hw, if_pos zq1, if_pos zq1, if_pos zq1, rd_at, rd_at, wrap_in zq1, wrap_succ i zq1]
 have L1 : ∀ (d j : Nat), j + d = K.length → Ev (fun k => spec_l4body.l1 k (head b ls ++ flat (line ls) ls.length ++ varint K.length ++ flat (grp b K Ps) j) (j : Int) b ls K Ps) (body (b, ls, K, Ps)) := by
  intro d
  induction d with
  | zero =>
   intro j hd
   obtain rfl : j = K.length := by omega
   refine Ev.step (f := fun _ => some (body (b, ls, K, Ps))) (fun k => ?_) (Ev.now _)
   simp only [spec_l4body.l1]
   rw [if_neg zq1]
   rfl
  | succ d ih =>
   intro j hd
   have hj : j < K.length := by omega
   obtain ⟨g0, g1⟩ := h.g1 j hj
   have g0 : 0 ≤ gap K j := g0
   have g1 : gap K j ≤ 16777216 := g1
   have hgl : (flat (grp b K Ps) j).length ≤ 180360000 := grps_len h j (by show j ≤ K.length; omega)
   have hp1 : (Ps.getD j []).length ≤ 1000 := h.p1 j
   have hv1 := varint_ev (gap K j).toNat zq1
   rw [Int.toNat_of_nonneg g0] at hv1
   have hv2 := varint_ev (Ps.getD j []).length zq1
   have hl1' := varint_len10 (n := (gap K j).toNat) zq1
   have hl2' := varint_len10 (n := (Ps.getD j []).length) zq1
   generalize hO : head b ls ++ flat (line ls) ls.length ++ varint K.length ++ flat (grp b K Ps) j = O
   have hOl : O.length ≤ 250000000 := by rw [← hO]; simp only [List.length_append]; omega
   have hnext := ih (j + 1) zq1
   rw [flat_succ, ← List.append_assoc, hO] at hnext
   have hg : grp b K Ps j = varint (gap K j).toNat ++ varint (Ps.getD j []).length ++ dels b (Ps.getD j []) (Ps.getD j []).length := rfl
   rw [hg] at hnext
   have hin := L2 j (O ++ varint (gap K j).toNat ++ varint (Ps.getD j []).length) hj (by simp only [List.length_append]; omega) (by
    have e1 : O ++ varint (gap K j).toNat ++ varint (Ps.getD j []).length ++ dels b (Ps.getD j []) (Ps.getD j []).length = O ++ (varint (gap K j).toNat ++ varint (Ps.getD j []).length ++ dels b (Ps.getD j []) (Ps.getD j []).length) := by simp only [List.append_assoc]
    rw [e1]
    exact hnext) (Ps.getD j []).length 0 zq1
   have hd0 : dels b (Ps.getD j []) 0 = [] := rfl
   rw [hd0, List.append_nil] at hin
   have J2 : Ev (fun k => spec_l4body.j2 k O (j : Int) (gap K j) b ls K Ps) (body (b, ls, K, Ps)) := by
    refine Ev.step (f := fun k => (spec_l4varint.f k (gap K j)).bind fun t371 => (if O.length + t371.length < 140737488355328 then ((spec_l4varint.f k ((Ps.getD j []).length : Int)).bind fun t378 => (if (O ++ t371).length + t378.length < 140737488355328 then (spec_l4body.l2 k ((O ++ t371) ++ t378) (j : Int) ((0 : Nat) : Int) b ls K Ps) else none)) else none)) (fun k => ?_) (Ev.bind hv1 (Ev.congr (fun k => if_pos zq1) (Ev.bind hv2 (Ev.congr (fun k => if_pos (by rw [List.length_append]; omega)) hin))))
    simp only [spec_l4body.j2, Option.bind_some]
    simp only [show (0 : Int) ≤ (j : Int) from by omega, show (j : Int) < (Ps.length : Int) from by omega, if_true, rdP]
    rfl
   by_cases h0 : j = 0
   ·subst h0
    refine Ev.step (fun k => ?_) J2
    simp only [spec_l4body.l1]
    rw [if_pos zq1, if_pos zq1, if_neg zq1, rd_at]
    rfl
   ·have hgap : gap K j = K.getD j 0 - K.getD (j - 1) 0 := if_neg h0
    have hw : wrap64 ((j : Int) - 1) = ((j - 1 : Nat) : Int) := by rw [wrap_in zq1]; omega
    refine Ev.step (fun k => ?_) J2
    simp only [spec_l4body.l1]
    rw [if_pos zq1, if_pos zq1, if_pos zq1, hw, if_pos zq1, if_pos zq1, rd_at, rd_at, ← hgap, wrap_in zq1]
 have L0 : ∀ (d i : Nat), i + d = ls.length → Ev (fun k => spec_l4body.l0 k (head b ls ++ flat (line ls) i) (i : Int) b ls K Ps) (body (b, ls, K, Ps)) := by
  intro d
  induction d with
  | zero =>
   intro i hd
   obtain rfl : i = ls.length := by omega
   have h1 := L1 K.length 0 zq1
   have hf0 : flat (grp b K Ps) 0 = [] := rfl
   rw [hf0, List.append_nil] at h1
   refine Ev.step (f := fun k => (spec_l4varint.f k (K.length : Int)).bind fun t363 => (if (head b ls ++ flat (line ls) ls.length).length + t363.length < 140737488355328 then (spec_l4body.l1 k ((head b ls ++ flat (line ls) ls.length) ++ t363) ((0 : Nat) : Int) b ls K Ps) else none)) (fun k => ?_) (Ev.bind (varint_ev K.length zq1) (Ev.congr (fun k => if_pos (by rw [List.length_append]; omega)) h1))
   simp only [spec_l4body.l0]
   rw [if_neg zq1]
   rfl
  | succ d ih =>
   intro i hd
   have hfl : (flat (line ls) i).length ≤ 20010000 := lines_len h i (by show i ≤ ls.length; omega)
   have hil := getD_len ls i
   have hvl := varint_len10 (n := (ls.getD i []).length) zq1
   have hr := ih (i + 1) zq1
   have hline : line ls i = varint (ls.getD i []).length ++ ls.getD i [] := rfl
   rw [flat_succ, ← List.append_assoc, hline, ← List.append_assoc] at hr
   generalize hO : head b ls ++ flat (line ls) i = O at hr ⊢
   have hOl : O.length ≤ 20010020 := by rw [← hO, List.length_append]; omega
   refine Ev.step (f := fun k => (spec_l4varint.f k ((ls.getD i []).length : Int)).bind fun t353 => (if O.length + t353.length < 140737488355328 then (if (O ++ t353).length + (ls.getD i []).length < 140737488355328 then (spec_l4body.l0 k ((O ++ t353) ++ ls.getD i []) ((i + 1 : Nat) : Int) b ls K Ps) else none) else none)) (fun k => ?_) (Ev.bind (varint_ev (ls.getD i []).length zq1) (Ev.congr (fun k => if_pos zq1) (Ev.congr (fun k => if_pos (by rw [List.length_append]; omega)) hr)))
   simp only [spec_l4body.l0, Option.bind_some]
   rw [if_pos zq1, if_pos zq1, rdL, wrap_succ i zq1]
 have h0 := L0 ls.length 0 zq1
 have hf0 : flat (line ls) 0 = [] := rfl
 rw [hf0, List.append_nil] at h0
 have hv1 := varint_ev b.toNat zq1
 rw [Int.toNat_of_nonneg hb0] at hv1
 have hl1' := varint_len10 (n := b.toNat) zq1
 have hl2' := varint_len10 (n := ls.length) zq1
 show Ev (fun k => spec_l4body.f k b ls K Ps) _
 refine Ev.congr (f := fun k => (spec_l4varint.f k b).bind fun t340 => (if [(84 : Int), 71].length + t340.length < 140737488355328 then ((spec_l4varint.f k (ls.length : Int)).bind fun t346 => (if ([(84 : Int), 71] ++ t340).length + t346.length < 140737488355328 then (spec_l4body.l0 k (([84, 71] ++ t340) ++ t346) ((0 : Nat) : Int) b ls K Ps) else none)) else none)) (fun k => ?_) (Ev.bind hv1 (Ev.congr (fun k => if_pos (by simp only [List.length_cons, List.length_nil]; omega)) (Ev.bind (varint_ev ls.length zq1) (Ev.congr (fun k => if_pos (by simp only [List.length_append, List.length_cons, List.length_nil]; omega)) h0))))
 simp only [spec_l4body.f, Option.bind_some]
 rfl
end Go.Proofs.YtmgmdnmfalepkaaGreat.PEnc

namespace Go.Proofs.YtmgmdnmfalepkaaGreat.PEnc
open Go.RowKit Go.Proofs.YtmgmdnmfalepkaaGreatW.PrintWords Go.Proofs.YtmgmdnmfalepkaaGreat.PKit Go.Proofs.YtmgmdnmfalepkaaGreat.POrd Go.Proofs.YtmgmdnmfalepkaaGreat.PTri Go.Proofs.YtmgmdnmfalepkaaGreat.PSeg Go.Proofs.YtmgmdnmfalepkaaGreat.L Go.Proofs.YtmgmdnmfalepkaaGreat.HelpBB
set_option linter.unusedVariables false
theorem xor_i64 (a b : Nat) (ha : a < 4294967296) (hb : b < 4294967296) : Go.bits .xor .i64 (a : Int) (b : Int) = ((a ^^^ b : Nat) : Int) := by
 have hx : a ^^^ b < 2 ^ 32 := Nat.xor_lt_two_pow zq1 zq1
 have h1 : (BitVec.ofInt 64 (a : Int)).toNat = a := by
  rw [BitVec.ofInt_natCast, BitVec.toNat_ofNat]; exact Nat.mod_eq_of_lt zq1
 have h2 : (BitVec.ofInt 64 (b : Int)).toNat = b := by
  rw [BitVec.ofInt_natCast, BitVec.toNat_ofNat]; exact Nat.mod_eq_of_lt zq1
 show IntKind.i64.wrap ((BitVec.ofInt 64 (a : Int) ^^^ BitVec.ofInt 64 (b : Int)).toNat : Int) = _
 rw [BitVec.toNat_xor, h1, h2, IntKind.wrap_i64]
 omega
theorem xor_lt (a b : Nat) (ha : a < 4294967296) (hb : b < 4294967296) : a ^^^ b < 4294967296 := by
 have hx : a ^^^ b < 2 ^ 32 := Nat.xor_lt_two_pow zq1 zq1
 omega
def mix (h : Nat) (c : Int) : Nat := ((h ^^^ c.toNat) * 16777619) % 4294967296
def sumFrom (z : Nat) (l : List Int) : Nat := l.foldl mix z
theorem sumFrom_snoc (z : Nat) (l : List Int) (c : Int) : sumFrom z (l ++ [c]) = mix (sumFrom z l) c := by
 unfold sumFrom
 rw [List.foldl_append, List.foldl_cons, List.foldl_nil]
def sum (l : List Int) : Nat := sumFrom 2166136261 l
theorem sum_snoc (l : List Int) (c : Int) : sum (l ++ [c]) = mix (sum l) c := sumFrom_snoc _ l c
theorem sum_nil : sum [] = 2166136261 := rfl
theorem mix_lt (h : Nat) (c : Int) : mix h c < 4294967296 := Nat.mod_lt _ zq15
theorem sum_lt (l : List Int) : sum l < 4294967296 := by
 rcases List.eq_nil_or_concat l with rfl | ⟨r, c, rfl⟩
 ·rw [sum_nil]; decide
 ·rw [List.concat_eq_append, sum_snoc]
  exact mix_lt _ _
def four (h : Nat) : List Int := [((h / 16777216 : Nat) : Int), ((h / 65536 % 256 : Nat) : Int), ((h / 256 % 256 : Nat) : Int), ((h % 256 : Nat) : Int)]
def code (s : SegT) : List Int := body s ++ four (sum (body s))
theorem four_bytes {h : Nat} (hh : h < 4294967296) : ∀ x ∈ four h, 0 ≤ x ∧ x ≤ 255 := by
 intro x hx
 simp only [four, List.mem_cons, List.not_mem_nil, or_false] at hx
 rcases hx with rfl | rfl | rfl | rfl <;> omega
theorem sum_ev (l : List Int) (hb : ∀ x ∈ l, 0 ≤ x ∧ x ≤ 255) (hl : l.length ≤ 1099511627776) : Ev (fun k => spec_l4checksum.f k l) (four (sum l)) := by
 have key : ∀ (d i : Nat), i + d = l.length → Ev (fun k => spec_l4checksum.l0 k l (sum (l.take i) : Int) (i : Int)) (four (sum l)) := by
  intro d
  induction d with
  | zero =>
   intro i hd
   have e : l.take i = l := List.take_of_length_le zq1
   rw [e]
   have hs := sum_lt l
   generalize sum l = h at hs
   refine Ev.step (f := fun _ => some (four h)) (fun k => ?_) (Ev.now _)
   simp only [spec_l4checksum.l0]
   rw [if_neg zq1]
   have t1 : Int.tdiv (h : Int) 16777216 = ((h / 16777216 : Nat) : Int) := rfl
   have t2 : Int.tdiv (h : Int) 65536 = ((h / 65536 : Nat) : Int) := rfl
   have t3 : Int.tdiv (h : Int) 256 = ((h / 256 : Nat) : Int) := rfl
   have t4 : Int.tmod (h : Int) 256 = ((h % 256 : Nat) : Int) := rfl
   have t5 : Int.tmod ((h / 65536 : Nat) : Int) 256 = ((h / 65536 % 256 : Nat) : Int) := rfl
   have t6 : Int.tmod ((h / 256 : Nat) : Int) 256 = ((h / 256 % 256 : Nat) : Int) := rfl
   rw [t1, t2, t3, t4, wrap_in (x := ((h / 16777216 : Nat) : Int)) zq1, wrap_in (x := ((h / 65536 : Nat) : Int)) zq1, wrap_in (x := ((h / 256 : Nat) : Int)) zq1, t5, t6]
   unfold four
   congr 2
   ·omega
   ·congr 1
    ·omega
    ·congr 1
     ·omega
     ·congr 1
      omega
  | succ d ih =>
   intro i hd
   have hi : i < l.length := by omega
   have ht : l.take (i + 1) = l.take i ++ [l.getD i 0] := by
    rw [List.take_succ_eq_append_getElem hi]
    simp [List.getD, List.getElem?_eq_getElem hi]
   have hr := ih (i + 1) zq1
   rw [ht, sum_snoc] at hr
   obtain ⟨c0, c1⟩ := hb (l.getD i 0) (by
    have e : l.getD i 0 = l[i] := by simp [List.getD, List.getElem?_eq_getElem hi]
    rw [e]
    exact List.getElem_mem hi)
   have hs := sum_lt (l.take i)
   generalize sum (l.take i) = h at hs hr ⊢
   have hx := xor_lt h (l.getD i 0).toNat hs zq1
   refine Ev.step (fun k => ?_) hr
   simp only [spec_l4checksum.l0]
   rw [if_pos zq1, if_pos zq1, rd_at, wrap_in (x := l.getD i 0) zq1]
   have e1 : Go.bits .xor .i64 (h : Int) (l.getD i 0) = ((h ^^^ (l.getD i 0).toNat : Nat) : Int) := by
    have := xor_i64 h (l.getD i 0).toNat hs zq1
    rwa [Int.toNat_of_nonneg c0] at this
   rw [e1, wrap_in zq1, wrap_succ i zq1]
   have e2 : Int.tmod (((h ^^^ (l.getD i 0).toNat : Nat) : Int) * 16777619) 4294967296 = ((mix h (l.getD i 0) : Nat) : Int) := by
    have : ((h ^^^ (l.getD i 0).toNat : Nat) : Int) * 16777619 = (((h ^^^ (l.getD i 0).toNat) * 16777619 : Nat) : Int) := by omega
    rw [this]
    rfl
   rw [e2]
 have h := key l.length 0 zq1
 exact Ev.congr (fun k => by simp only [spec_l4checksum.f]; rfl) h
theorem flat_bytes {f : Nat → List Int} : ∀ n, (∀ i, i < n → ∀ x ∈ f i, 0 ≤ x ∧ x ≤ 255) → ∀ x ∈ flat f n, 0 ≤ x ∧ x ≤ 255 := by
 intro n h x hx
 obtain ⟨i, hi, hx⟩ := List.mem_flatMap.1 hx
 exact h i (List.mem_range.1 hi) x hx
theorem body_bytes (s : SegT) (hb : Bytes s.2.1) : ∀ x ∈ body s, 0 ≤ x ∧ x ≤ 255 := by
 intro x hx
 unfold body head at hx
 simp only [List.mem_append] at hx
 rcases hx with ((((hx | hx) | hx) | hx) | hx) | hx
 ·simp only [List.mem_cons, List.not_mem_nil, or_false] at hx
  rcases hx with rfl | rfl <;> omega
 ·exact varint_bytes _ x hx
 ·exact varint_bytes _ x hx
 ·refine flat_bytes _ (fun i hi y hy => ?_) x hx
  unfold line at hy
  rcases List.mem_append.1 hy with hy | hy
  ·exact varint_bytes _ y hy
  ·exact getD_bytes hb i y hy
 ·exact varint_bytes _ x hx
 ·refine flat_bytes _ (fun j hj y hy => ?_) x hx
  unfold grp at hy
  simp only [List.mem_append] at hy
  rcases hy with (hy | hy) | hy
  ·exact varint_bytes _ y hy
  ·exact varint_bytes _ y hy
  ·exact flat_bytes _ (fun i hi z hz => varint_bytes _ z hz) y hy
theorem body_len {s : SegT} (h : EncOk s) : (body s).length ≤ 250000000 := by
 have h1 := head_len h.b1 h.l1
 have h2 := lines_len h s.2.1.length (Nat.le_refl _)
 have h3 := varint_len10 (n := s.2.2.1.length) (by have := h.k1; omega)
 have h4 := grps_len h s.2.2.1.length (Nat.le_refl _)
 unfold body
 simp only [List.length_append]
 omega
theorem code_bytes {s : SegT} (hb : Bytes s.2.1) : ∀ x ∈ code s, 0 ≤ x ∧ x ≤ 255 := by
 intro x hx
 rcases List.mem_append.1 hx with hx | hx
 ·exact body_bytes s hb x hx
 ·exact four_bytes (sum_lt _) x hx
theorem code_len {s : SegT} (h : EncOk s) : (code s).length ≤ 250000004 := by
 have := body_len h
 unfold code
 rw [List.length_append]
 simp only [four, List.length_cons, List.length_nil]
 omega
theorem encode_ev (s : SegT) (h : EncOk s) (hb : Bytes s.2.1) : Ev (fun k => spec_l4encode.f k s.1 s.2.1 s.2.2.1 s.2.2.2) (code s) := by
 have hl := body_len h
 refine Ev.congr (fun k => by simp only [spec_l4encode.f]) (Ev.bind (f := fun k t408 => (spec_l4checksum.f k t408).bind fun t411 => (if t408.length + t411.length < 140737488355328 then some (t408 ++ t411) else none)) (body_ev s h) (Ev.bind (sum_ev (body s) (body_bytes s hb) zq1) (Ev.congr (f := fun _ => some (code s)) (fun k => if_pos (by simp only [four, List.length_cons, List.length_nil]; omega)) (Ev.now _))))
end Go.Proofs.YtmgmdnmfalepkaaGreat.PEnc

namespace Go.Proofs.YtmgmdnmfalepkaaGreat.L
open Go.RowKit Go.Proofs.YtmgmdnmfalepkaaGreatW.PrintWords Go.Proofs.YtmgmdnmfalepkaaGreatW.PrintLast Go.Proofs.YtmgmdnmfalepkaaGreatW.PrintMore
attribute [local go_sem] max2_int min2_int max_two min_two max_three min_three max_four min_four
set_option linter.unusedVariables false
set_option linter.unusedSimpArgs false
def spec_l4sameBytes.f (l0 : List Int) (l1 : List Int) : Option (Bool) := some ((strOfNums l0).toList == (strOfNums l1).toList)
set_option maxHeartbeats 8000000 in
set_option maxRecDepth 100000 in
theorem spec_l4sameBytes.calls (A0 : Option Addr) (c0 : Nat) (l0 : List Int) (A1 : Option Addr) (c1 : Nat) (l1 : List Int) (r : Bool) (w : World) (hr0 : Kd.C (Kd.int .u8) w A0 l0.length l0) (hc0 : l0.length ≤ c0) (hr1 : Kd.C (Kd.int .u8) w A1 l1.length l1) (hc1 : l1.length ≤ c1) (h : spec_l4sameBytes.f l0 l1 = some r) :
  Calls Tryz.prog 69 #[.slice A0 l0.length c0, .slice A1 l1.length c1] w fun e w' => e = .returned (.bool r) ∧ Drawn0 w w' := by
 have HR0 := zA hr0
 have HC0 := zA hc0
 clear hr0 hc0
 have HR1 := zA hr1
 have HC1 := zA hc1
 clear hr1 hc1
 have H : (some ((strOfNums l0).toList == (strOfNums l1).toList)) = some r := h
 clear h
 obtain rfl := Option.some.inj H
 have hcv3 := Kd.C_string (P := Tryz.prog) (A := A0) (c := c0) Tryz.underlying25 Tryz.underlying5 Tryz.underlying9 HR0.out
 have hcv4 := Kd.C_string (P := Tryz.prog) (A := A1) (c := c1) Tryz.underlying25 Tryz.underlying5 Tryz.underlying9 HR1.out
 go_enter Tryz.func69, Tryz.ntmps69
 go_wp2
 go_ret
 exact ⟨zq4, zq8⟩
end Go.Proofs.YtmgmdnmfalepkaaGreat.L

namespace Go.Proofs.YtmgmdnmfalepkaaGreat.PEnc
open Go.RowKit Go.Proofs.YtmgmdnmfalepkaaGreatW.PrintWords Go.Proofs.YtmgmdnmfalepkaaGreat.PKit Go.Proofs.YtmgmdnmfalepkaaGreat.POrd Go.Proofs.YtmgmdnmfalepkaaGreat.PTri Go.Proofs.YtmgmdnmfalepkaaGreat.PSeg Go.Proofs.YtmgmdnmfalepkaaGreat.L Go.Proofs.YtmgmdnmfalepkaaGreat.HelpBB
set_option linter.unusedVariables false
theorem getD_in {l : List Int} {i : Nat} (h : i < l.length) : l.getD i 0 ∈ l := by
 rw [getD_get l i h]
 exact List.getElem_mem h
theorem post_mem {b : Int} {ls : List (List Int)} {n : Nat} {k x : Int} (h : x ∈ post b ls n k) : b ≤ x ∧ x < b + (n : Int) := by
 unfold post at h
 obtain ⟨i, hi, rfl⟩ := List.mem_map.1 h
 have := List.mem_range.1 (List.mem_filter.1 hi).1
 omega
theorem post_asc (b : Int) (ls : List (List Int)) (n : Nat) (k : Int) : Asc (post b ls n k) := by
 induction n with
 | zero => exact List.Pairwise.nil
 | succ n ih =>
  rw [post_succ]
  by_cases h : hasT ls k n = true
  ·rw [if_pos h]
   exact snoc_asc ih (fun u hu => by have := (post_mem hu).2; omega)
  ·rw [if_neg h, List.append_nil]
   exact ih
theorem fits_parts {b : Int} {ls : List (List Int)} (hf : fits b ls = true) : 0 ≤ b ∧ b ≤ 1000 ∧ 1 ≤ ls.length ∧ b + (ls.length : Int) ≤ 1000 ∧ plain ls = true ∧ totalB ls ≤ 20000 := by
 unfold fits at hf
 simp only [Bool.and_eq_true, decide_eq_true_eq] at hf
 obtain ⟨⟨⟨⟨⟨h1, h2⟩, h3⟩, h4⟩, h5⟩, h6⟩ := hf
 exact ⟨h1, h2, h3, h4, h5, h6⟩
theorem keys_bd {ls : List (List Int)} (hb : Bytes ls) : ∀ x ∈ keys ls, 0 ≤ x ∧ x ≤ 16777215 := fun x hx => by
 obtain ⟨l, hl, hx2⟩ := List.mem_flatMap.1 ((mem_ord _ _).1 hx)
 exact tris_bd l (fun y hy => hb l hl y hy) x hx2
theorem asc_getD {l : List Int} (h : Asc l) {i j : Nat} (hij : i < j) (hj : j < l.length) : l.getD i 0 < l.getD j 0 := by
 rw [getD_get l i zq1, getD_get l j hj]
 exact asc_get h hij hj
theorem encOk_seg {b : Int} {ls : List (List Int)} (hf : fits b ls = true) (hb : Bytes ls) : EncOk (seg b ls) := by
 obtain ⟨h1, h2, h3, h4, h5, h6⟩ := fits_parts hf
 have hk := keys_len ls
 have ha : Asc (keys ls) := asc_ord _
 have hbd := keys_bd hb
 have hP : ∀ j, j < (keys ls).length → ((keys ls).map (post b ls ls.length)).getD j [] = post b ls ls.length ((keys ls).getD j 0) := fun j hj => by
  simp [List.getD, List.getElem?_map, List.getElem?_eq_getElem hj]
 refine ⟨h1, h2, by show ls.length ≤ 1000; omega, h6, by show (keys ls).length ≤ 20000; omega, by show ((keys ls).map _).length = (keys ls).length; rw [List.length_map], fun j => ?_, fun j hj => ?_, fun j i hj hi => ?_, fun j => ?_⟩
 ·show (((keys ls).map (post b ls ls.length)).getD j []).length ≤ 1000
  by_cases hj : j < (keys ls).length
  ·rw [hP j hj]
   have := post_len b ls ls.length ((keys ls).getD j 0)
   omega
  ·rw [show ((keys ls).map (post b ls ls.length)).getD j [] = [] from by simp [List.getD, List.getElem?_eq_none (show ((keys ls).map (post b ls ls.length)).length ≤ j by rw [List.length_map]; omega)]]
   simp
 ·show 0 ≤ gap (keys ls) j ∧ gap (keys ls) j ≤ 16777216
  have hj : j < (keys ls).length := hj
  have hm := hbd _ (getD_in hj)
  unfold gap
  by_cases h0 : j = 0
  ·subst h0
   rw [if_pos rfl]
   omega
  ·rw [if_neg h0]
   have hm2 := hbd _ (getD_in (show j - 1 < (keys ls).length by omega))
   have := asc_getD ha (show j - 1 < j by omega) hj
   omega
 ·have hj : j < (keys ls).length := hj
  have hi : i < (((keys ls).map (post b ls ls.length)).getD j []).length := hi
  show 0 ≤ del b (((keys ls).map (post b ls ls.length)).getD j []) i ∧ del b (((keys ls).map (post b ls ls.length)).getD j []) i ≤ 1000
  rw [hP j hj] at hi ⊢
  have hpa := post_asc b ls ls.length ((keys ls).getD j 0)
  have hm := post_mem (getD_in hi)
  unfold del
  by_cases h0 : i = 0
  ·subst h0
   rw [if_pos rfl]
   omega
  ·rw [if_neg h0]
   have hm2 := post_mem (getD_in (show i - 1 < (post b ls ls.length ((keys ls).getD j 0)).length by omega))
   have := asc_getD hpa (show i - 1 < i by omega) hi
   omega
 ·show -9223372036854775808 ≤ (keys ls).getD j 0 ∧ (keys ls).getD j 0 ≤ 9223372036854775807
  by_cases hj : j < (keys ls).length
  ·have := hbd _ (getD_in hj)
   omega
  ·rw [show (keys ls).getD j 0 = 0 from by simp [List.getD, List.getElem?_eq_none (Nat.le_of_not_lt hj)]]
   omega
def valid (s : SegT) : Bool := fits s.1 s.2.1 && (decide (s.2.2.1 = keys s.2.1) && decide (s.2.2.2 = (keys s.2.1).map (post s.1 s.2.1 s.2.1.length)))
theorem valid_seg {s : SegT} (h : valid s = true) : fits s.1 s.2.1 = true ∧ s = seg s.1 s.2.1 := by
 unfold valid at h
 simp only [Bool.and_eq_true, decide_eq_true_eq] at h
 obtain ⟨h1, h2, h3⟩ := h
 refine ⟨h1, ?_⟩
 obtain ⟨b, ls, K, Ps⟩ := s
 show (b, ls, K, Ps) = (b, ls, keys ls, (keys ls).map (post b ls ls.length))
 rw [show K = keys ls from h2, show Ps = (keys ls).map (post b ls ls.length) from h3]
def enc (s : SegT) : List Int := if valid s = true then code s else []
end Go.Proofs.YtmgmdnmfalepkaaGreat.PEnc

namespace Go.Proofs.YtmgmdnmfalepkaaGreat.PDec
open Go.RowKit Go.Proofs.YtmgmdnmfalepkaaGreatW.PrintWords Go.Proofs.YtmgmdnmfalepkaaGreat.PKit Go.Proofs.YtmgmdnmfalepkaaGreat.PSeg Go.Proofs.YtmgmdnmfalepkaaGreat.PEnc Go.Proofs.YtmgmdnmfalepkaaGreat.HelpBB
set_option linter.unusedVariables false
def rdNum : Nat → List Int → Option (Nat × List Int)
 | 0, _ => none
 | _ + 1, [] => none
 | k + 1, c :: r => if c < 128 then some (c.toNat, r) else (rdNum k r).map fun q => (c.toNat % 128 + 128 * q.1, q.2)
def rdLine (k : Nat) (b : List Int) : Option (List Int × List Int) := (rdNum k b).bind fun q => if q.1 ≤ q.2.length then some (q.2.take q.1, q.2.drop q.1) else none
def rdLines (k : Nat) : Nat → List Int → Option (List (List Int) × List Int)
 | 0, b => some ([], b)
 | n + 1, b => (rdLine k b).bind fun q => (rdLines k n q.2).map fun p => (q.1 :: p.1, p.2)
def rdHead (k : Nat) (b : List Int) : Option (Int × List (List Int)) := (rdNum k b).bind fun q => (rdNum k q.2).bind fun p => if p.1 ≤ 1000 then (rdLines k p.1 p.2).map fun l => ((q.1 : Int), l.1) else none
theorem rdNum_varint : ∀ (k n : Nat) (r : List Int), n < 128 ^ (k + 1) → rdNum (k + 1) (varint n ++ r) = some (n, r) := by
 intro k
 induction k with
 | zero =>
  intro n r hn
  have hn : n < 128 := by simpa using hn
  rw [varint_lt hn]
  show (if (n : Int) < 128 then _ else _) = _
  rw [if_pos zq1]
  simp
 | succ k ih =>
  intro n r hn
  by_cases h : n < 128
  ·rw [varint_lt h]
   show (if (n : Int) < 128 then _ else _) = _
   rw [if_pos zq1]
   simp
  ·rw [varint_ge h, List.cons_append]
   show (if ((n % 128 + 128 : Nat) : Int) < 128 then _ else (rdNum (k + 1) (varint (n / 128) ++ r)).map _) = _
   rw [if_neg zq1, ih (n / 128) r (by rw [Nat.div_lt_iff_lt_mul zq15]; rw [Nat.pow_succ] at hn; exact hn), Option.map_some, Int.toNat_natCast]
   have : (n % 128 + 128) % 128 + 128 * (n / 128) = n := by omega
   simp only [this]
theorem rdNum_some : ∀ (k : Nat) (b : List Int) (v : Nat) (r : List Int), (∀ x ∈ b, 0 ≤ x ∧ x ≤ 255) → rdNum k b = some (v, r) → v < 128 ^ k ∧ ∃ m, 1 ≤ m ∧ m ≤ k ∧ m ≤ b.length ∧ r = b.drop m := by
 intro k
 induction k with
 | zero => intro b v r _ h; simp [rdNum] at h
 | succ k ih =>
  intro b v r hb h
  rcases b with _ | ⟨c, t⟩
  ·simp [rdNum] at h
  ·have h : (if c < 128 then some (c.toNat, t) else (rdNum k t).map fun q => (c.toNat % 128 + 128 * q.1, q.2)) = some (v, r) := h
   have hc := hb c (List.mem_cons_self ..)
   have hp : 0 < 128 ^ k := Nat.pow_pos zq15
   rw [Nat.pow_succ]
   by_cases hl : c < 128
   ·rw [if_pos hl] at h
    injection h with h
    injection h with h1 h2
    refine ⟨zq1, 1, Nat.le_refl _, zq1, zq12, by simpa using h2.symm⟩
   ·rw [if_neg hl] at h
    cases hq : rdNum k t with
    | none => rw [hq] at h; simp at h
    | some q =>
     obtain ⟨q1, q2⟩ := q
     rw [hq, Option.map_some] at h
     injection h with h
     injection h with h1 h2
     obtain ⟨e1, m, e2, e3, e4, e5⟩ := ih t q1 q2 (fun x hx => hb x (List.mem_cons_of_mem _ hx)) hq
     have h1 : c.toNat % 128 + 128 * q1 = v := h1
     have h2 : q2 = r := h2
     refine ⟨zq1, m + 1, zq1, zq1, zq35, ?_⟩
     rw [← h2, e5]
     simp
theorem bytes_drop {b : List Int} (hb : ∀ x ∈ b, 0 ≤ x ∧ x ≤ 255) (m : Nat) : ∀ x ∈ b.drop m, 0 ≤ x ∧ x ≤ 255 := fun x hx => hb x (List.mem_of_mem_drop hx)
theorem bytes_take {b : List Int} (hb : ∀ x ∈ b, 0 ≤ x ∧ x ≤ 255) (m : Nat) : ∀ x ∈ b.take m, 0 ≤ x ∧ x ≤ 255 := fun x hx => hb x (List.mem_of_mem_take hx)
theorem rdLines_some (k : Nat) : ∀ (n : Nat) (b : List Int) (ls : List (List Int)) (r : List Int), (∀ x ∈ b, 0 ≤ x ∧ x ≤ 255) → rdLines k n b = some (ls, r) → ls.length = n ∧ ls.length + totalB ls + r.length ≤ b.length ∧ Bytes ls := by
 intro n
 induction n with
 | zero =>
  intro b ls r hb h
  injection h with h
  injection h with h1 h2
  subst h1 h2
  exact ⟨rfl, by simp [totalB], fun l hl => by cases hl⟩
 | succ n ih =>
  intro b ls r hb h
  have h : ((rdLine k b).bind fun q => (rdLines k n q.2).map fun p => (q.1 :: p.1, p.2)) = some (ls, r) := h
  unfold rdLine at h
  cases hq : rdNum k b with
  | none => rw [hq] at h; simp at h
  | some q =>
   obtain ⟨v, t⟩ := q
   obtain ⟨_, m, e2, e3, e4, e5⟩ := rdNum_some k b v t hb hq
   rw [hq, Option.bind_some] at h
   simp only at h
   by_cases hv : v ≤ t.length
   ·rw [if_pos hv, Option.bind_some] at h
    simp only at h
    have ht : ∀ x ∈ t, 0 ≤ x ∧ x ≤ 255 := by rw [e5]; exact bytes_drop hb m
    cases hp : rdLines k n (t.drop v) with
    | none => rw [hp] at h; simp at h
    | some p =>
     obtain ⟨ls', r'⟩ := p
     rw [hp, Option.map_some] at h
     injection h with h
     injection h with h1 h2
     have h1 : t.take v :: ls' = ls := h1
     have h2 : r' = r := h2
     obtain ⟨q1, q2, q3⟩ := ih _ _ _ (bytes_drop ht v) hp
     subst h1 h2
     have hc : totalB (t.take v :: ls') = (t.take v).length + totalB ls' := by simp [totalB]
     have hl1 : t.length = b.length - m := by rw [e5, List.length_drop]
     rw [List.length_drop] at q2
     refine ⟨by simp [q1], ?_, ?_⟩
     ·rw [hc, List.length_cons, List.length_take]
      omega
     ·intro l hl
      rcases List.mem_cons.1 hl with e | hl
      ·subst e
       exact bytes_take ht v
      ·exact q3 l hl
   ·rw [if_neg hv] at h
    simp at h
theorem rdHead_some (k : Nat) (b : List Int) (base : Int) (ls : List (List Int)) (hb : ∀ x ∈ b, 0 ≤ x ∧ x ≤ 255) (h : rdHead k b = some (base, ls)) : 0 ≤ base ∧ base < ((128 ^ k : Nat) : Int) ∧ ls.length ≤ 1000 ∧ ls.length + totalB ls ≤ b.length ∧ Bytes ls := by
 unfold rdHead at h
 cases hq : rdNum k b with
 | none => rw [hq] at h; simp at h
 | some q =>
  obtain ⟨v, t⟩ := q
  obtain ⟨e1, m, e2, e3, e4, e5⟩ := rdNum_some k b v t hb hq
  have ht : ∀ x ∈ t, 0 ≤ x ∧ x ≤ 255 := by rw [e5]; exact bytes_drop hb m
  rw [hq, Option.bind_some] at h
  simp only at h
  cases hp : rdNum k t with
  | none => rw [hp] at h; simp at h
  | some p =>
   obtain ⟨n, t'⟩ := p
   obtain ⟨f1, m', f2, f3, f4, f5⟩ := rdNum_some k t n t' ht hp
   rw [hp, Option.bind_some] at h
   simp only at h
   by_cases hn : n ≤ 1000
   ·rw [if_pos hn] at h
    cases hl : rdLines k n t' with
    | none => rw [hl] at h; simp at h
    | some l =>
     obtain ⟨ls', r⟩ := l
     rw [hl, Option.map_some] at h
     injection h with h
     injection h with h1 h2
     have h1 : (v : Int) = base := h1
     have h2 : ls' = ls := h2
     subst h2
     obtain ⟨q1, q2, q3⟩ := rdLines_some k n t' ls' r (by rw [f5]; exact bytes_drop ht m') hl
     have l1 : t.length = b.length - m := by rw [e5, List.length_drop]
     have l2 : t'.length = t.length - m' := by rw [f5, List.length_drop]
     have e1' : (v : Int) < ((128 ^ k : Nat) : Int) := Int.ofNat_lt.2 e1
     exact ⟨zq1, zq1, zq1, zq1, q3⟩
   ·rw [if_neg hn] at h
    simp at h
theorem flat_lines (ls : List (List Int)) : flat (line ls) ls.length = ls.flatMap fun l => varint l.length ++ l := by
 have e : (List.range ls.length).map (fun i => ls.getD i []) = ls := by
  apply List.ext_getElem
  ·simp
  ·intro i h1 h2
   simp [List.getD, List.getElem?_eq_getElem h2]
 conv => rhs; rw [← e]
 rw [List.flatMap_map]
 rfl
theorem rdLines_code (k : Nat) : ∀ (ls : List (List Int)) (r : List Int), (∀ l ∈ ls, l.length < 128 ^ (k + 1)) → rdLines (k + 1) ls.length ((ls.flatMap fun l => varint l.length ++ l) ++ r) = some (ls, r) := by
 intro ls
 induction ls with
 | nil => intro r _; rfl
 | cons l t ih =>
  intro r h
  have e : ((l :: t).flatMap fun l => varint l.length ++ l) ++ r = varint l.length ++ (l ++ ((t.flatMap fun l => varint l.length ++ l) ++ r)) := by simp
  rw [e]
  show ((rdLine (k + 1) _).bind fun q => (rdLines (k + 1) t.length q.2).map fun p => (q.1 :: p.1, p.2)) = _
  unfold rdLine
  rw [rdNum_varint k l.length _ (h l (List.mem_cons_self ..)), Option.bind_some]
  simp only
  rw [if_pos zq12, Option.bind_some]
  simp only
  rw [List.drop_left, List.take_left, ih r (fun x hx => h x (List.mem_cons_of_mem _ hx)), Option.map_some]
theorem code_form (b : Int) (ls : List (List Int)) : ∃ r, code (seg b ls) = [84, 71] ++ (varint b.toNat ++ (varint ls.length ++ ((ls.flatMap fun l => varint l.length ++ l) ++ r))) := by
 refine ⟨varint (keys ls).length ++ (flat (grp b (keys ls) ((keys ls).map (post b ls ls.length))) (keys ls).length ++ four (sum (body (seg b ls)))), ?_⟩
 rw [← flat_lines]
 unfold code
 generalize four (sum (body (seg b ls))) = f
 show (((([84, 71] ++ varint b.toNat ++ varint ls.length) ++ flat (line ls) ls.length) ++ varint (keys ls).length) ++ flat (grp b (keys ls) ((keys ls).map (post b ls ls.length))) (keys ls).length) ++ f = _
 simp only [List.append_assoc]
theorem rdHead_code (k : Nat) (hk : 3 ≤ k) (b : Int) (ls : List (List Int)) (h : fits b ls = true) : rdHead (k + 1) ((code (seg b ls)).drop 2) = some (b, ls) := by
 obtain ⟨h1, h2, h3, h4, h5, h6⟩ := fits_parts h
 obtain ⟨r, e⟩ := code_form b ls
 have hp : 268435456 ≤ 128 ^ (k + 1) := Nat.le_trans (by decide : 268435456 ≤ 128 ^ 4) (Nat.pow_le_pow_right zq15 zq1)
 rw [e]
 show rdHead (k + 1) (varint b.toNat ++ _) = _
 unfold rdHead
 rw [rdNum_varint k b.toNat _ zq1, Option.bind_some]
 simp only
 rw [rdNum_varint k ls.length _ zq1, Option.bind_some]
 simp only
 rw [if_pos zq1, rdLines_code k ls r (fun l hl => by have := total_mem hl; omega), Option.map_some, Int.toNat_of_nonneg h1]
def decBy (P : List Int → Option (Int × List (List Int))) (b : List Int) : SegT × Int := match P b with
 | some q => if fits q.1 q.2 = true ∧ code (seg q.1 q.2) = b then (seg q.1 q.2, 0) else ((0, [], [], []), 5)
 | none => ((0, [], [], []), 5)
def Finds (P : List Int → Option (Int × List (List Int))) : Prop := ∀ b ls, fits b ls = true → P (code (seg b ls)) = some (b, ls)
theorem decBy_ok {P} (hP : Finds P) {b : Int} {ls : List (List Int)} (h : fits b ls = true) : decBy P (code (seg b ls)) = (seg b ls, 0) := by
 unfold decBy
 rw [hP b ls h]
 exact if_pos ⟨h, rfl⟩
theorem decBy_or (P) (b : List Int) : (∃ base ls, fits base ls = true ∧ code (seg base ls) = b ∧ P b = some (base, ls) ∧ decBy P b = (seg base ls, 0)) ∨ decBy P b = ((0, [], [], []), 5) := by
 unfold decBy
 cases h : P b with
 | none => exact .inr rfl
 | some q =>
  obtain ⟨base, ls⟩ := q
  by_cases hq : fits base ls = true ∧ code (seg base ls) = b
  ·refine .inl ⟨base, ls, hq.1, hq.2, rfl, ?_⟩
   exact if_pos hq
  ·exact .inr (if_neg hq)
theorem decBy_same {P Q} (hP : Finds P) (hQ : Finds Q) (b : List Int) : decBy P b = decBy Q b := by
 rcases decBy_or P b with ⟨base, ls, h1, h2, _, h3⟩ | h
 ·rw [h3, ← h2, decBy_ok hQ h1]
 ·rcases decBy_or Q b with ⟨base, ls, h1, h2, _, h3⟩ | h'
  ·rw [h3, ← h2, decBy_ok hP h1]
  ·rw [h, h']
def specP (b : List Int) : Option (Int × List (List Int)) := if b.length < 2 then none else rdHead 4 (b.drop 2)
def implP (b : List Int) : Option (Int × List (List Int)) := if b.take 2 = [84, 71] then rdHead 5 (b.drop 2) else none
theorem specP_finds : Finds specP := fun b ls h => by
 obtain ⟨r, e⟩ := code_form b ls
 unfold specP
 rw [if_neg (by rw [e]; simp), rdHead_code 3 zq1 b ls h]
theorem implP_finds : Finds implP := fun b ls h => by
 obtain ⟨r, e⟩ := code_form b ls
 unfold implP
 rw [if_pos (by rw [e]; simp), rdHead_code 4 zq1 b ls h]
def dec (b : List Int) : SegT × Int := decBy implP b
theorem dec_spec (b : List Int) : dec b = decBy specP b := decBy_same implP_finds specP_finds b
end Go.Proofs.YtmgmdnmfalepkaaGreat.PDec

namespace Go.Proofs.YtmgmdnmfalepkaaGreat.PSta
open Go.RowKit Go.Proofs.YtmgmdnmfalepkaaGreatW.PrintWords Go.Proofs.YtmgmdnmfalepkaaGreat.PKit Go.Proofs.YtmgmdnmfalepkaaGreat.PSeg Go.Proofs.YtmgmdnmfalepkaaGreat.PEnc Go.Proofs.YtmgmdnmfalepkaaGreat.PDec Go.Proofs.YtmgmdnmfalepkaaGreat.HelpBB
set_option linter.unusedVariables false
abbrev StaT := List (List Int) × List (List Int)
def segsFrom : Int → List (List Int) → Option (List SegT)
 | _, [] => some []
 | base, b :: r => if (dec b).2 = 0 ∧ (dec b).1.1 = base then (segsFrom (base + ((dec b).1.2.1.length : Int)) r).map fun q => (dec b).1 :: q else none
def nlin : List SegT → Nat
 | [] => 0
 | s :: r => s.2.1.length + nlin r
def tots : List SegT → Nat
 | [] => 0
 | s :: r => totalB s.2.1 + tots r
def flatS (ss : List SegT) : List (List Int) := ss.flatMap fun s => s.2.1
def segsOf (st : StaT) : Option (List SegT) := (segsFrom 0 st.1).bind fun ss => if plain st.2 = true ∧ nlin ss + st.2.length ≤ 1000 ∧ tots ss + totalB st.2 ≤ 20000 then some ss else none
def At (base : Int) (s : SegT) (b : List Int) : Prop := s.1 = base ∧ fits s.1 s.2.1 = true ∧ s = seg s.1 s.2.1 ∧ code s = b ∧ dec b = (s, 0)
inductive Chain : Int → List SegT → List (List Int) → Prop
 | nil (base : Int) : Chain base [] []
 | cons {base : Int} {s : SegT} {b : List Int} {ss : List SegT} {bs : List (List Int)} (h : At base s b) (t : Chain (base + (s.2.1.length : Int)) ss bs) : Chain base (s :: ss) (b :: bs)
theorem dec_at {b : List Int} (h : (dec b).2 = 0) : At (dec b).1.1 (dec b).1 b := by
 rcases decBy_or implP b with ⟨base, ls, h1, h2, h3, h4⟩ | h4
 ·have e : dec b = (seg base ls, 0) := h4
  rw [e]
  exact ⟨rfl, h1, rfl, h2, e⟩
 ·have e : dec b = ((0, [], [], []), 5) := h4
  rw [e] at h
  cases h
theorem segsFrom_chain : ∀ (bs : List (List Int)) (base : Int) (ss : List SegT), segsFrom base bs = some ss → Chain base ss bs := by
 intro bs
 induction bs with
 | nil =>
  intro base ss h
  injection h with h
  subst h
  exact .nil base
 | cons b r ih =>
  intro base ss h
  have h : (if (dec b).2 = 0 ∧ (dec b).1.1 = base then (segsFrom (base + ((dec b).1.2.1.length : Int)) r).map fun q => (dec b).1 :: q else none) = some ss := h
  by_cases hc : (dec b).2 = 0 ∧ (dec b).1.1 = base
  ·rw [if_pos hc] at h
   cases hr : segsFrom (base + ((dec b).1.2.1.length : Int)) r with
   | none => rw [hr] at h; cases h
   | some q =>
    rw [hr] at h
    injection h with h
    subst h
    have ha := dec_at hc.1
    rw [hc.2] at ha
    exact .cons ha (ih _ _ hr)
  ·rw [if_neg hc] at h
   cases h
theorem chain_segs {base : Int} {ss : List SegT} {bs : List (List Int)} (h : Chain base ss bs) : segsFrom base bs = some ss := by
 induction h with
 | nil base => rfl
 | cons h t ih =>
  obtain ⟨h1, h2, h3, h4, h5⟩ := h
  show (if _ ∧ _ then _ else none) = _
  rw [h5, if_pos ⟨rfl, h1⟩, ih]
  rfl
theorem chain_codes {base : Int} {ss : List SegT} {bs : List (List Int)} (h : Chain base ss bs) : ss.map code = bs := by
 induction h with
 | nil base => rfl
 | cons h t ih => rw [List.map_cons, ih, h.2.2.2.1]
theorem chain_len {base : Int} {ss : List SegT} {bs : List (List Int)} (h : Chain base ss bs) : ss.length = bs.length := by
 rw [← chain_codes h, List.length_map]
theorem flat_len (ss : List SegT) : (flatS ss).length = nlin ss := by
 induction ss with
 | nil => rfl
 | cons s r ih =>
  show (s.2.1 ++ flatS r).length = _
  rw [List.length_append, ih]
  rfl
theorem nlin_append (a b : List SegT) : nlin (a ++ b) = nlin a + nlin b := by
 induction a with
 | nil => simp [nlin]
 | cons s r ih => simp only [List.cons_append, nlin, ih]; omega
theorem tots_append (a b : List SegT) : tots (a ++ b) = tots a + tots b := by
 induction a with
 | nil => simp [tots]
 | cons s r ih => simp only [List.cons_append, tots, ih]; omega
theorem segsOf_some {st : StaT} {ss : List SegT} (h : segsOf st = some ss) : Chain 0 ss st.1 ∧ plain st.2 = true ∧ nlin ss + st.2.length ≤ 1000 ∧ tots ss + totalB st.2 ≤ 20000 := by
 unfold segsOf at h
 cases hs : segsFrom 0 st.1 with
 | none => rw [hs] at h; cases h
 | some q =>
  rw [hs, Option.bind_some] at h
  by_cases hc : plain st.2 = true ∧ nlin q + st.2.length ≤ 1000 ∧ tots q + totalB st.2 ≤ 20000
  ·rw [if_pos hc] at h
   injection h with h
   subst h
   exact ⟨segsFrom_chain _ _ _ hs, hc⟩
  ·rw [if_neg hc] at h
   cases h
end Go.Proofs.YtmgmdnmfalepkaaGreat.PSta

namespace Go.Proofs.YtmgmdnmfalepkaaGreat.HelpSeg
open Go.RowKit Go.Proofs.YtmgmdnmfalepkaaGreatW.PrintWords Go.Proofs.YtmgmdnmfalepkaaGreatW.PrintMore Go.Proofs.YtmgmdnmfalepkaaGreat.Kit Go.Proofs.YtmgmdnmfalepkaaGreat.PKit Go.Proofs.YtmgmdnmfalepkaaGreat.L Go.Proofs.YtmgmdnmfalepkaaGreat.Ty
set_option linter.unusedVariables false
abbrev X := Int × List (List Int) × List Int × List (List Int)
def tys : Tys X := (Tys.cons (Ty.sc (Value.int .i64)) (Tys.cons HelpBB.tBB (Tys.cons HelpI.tI (Tys.one HelpII.tII))))
abbrev tSeg : Ty X := Ty.agg tys
abbrev smallSeg (x : X) : Prop := (x.2.1.length + HelpBB.totalB x.2.1) + x.2.2.1.length + (x.2.2.2.length + HelpII.totalI x.2.2.2) ≤ 1048576
theorem form {w : World} {x : X} {v : Value} (h : tSeg.K w x v) : ∃ (A1 : Option Addr) (c1 : Nat) (A2 : Option Addr) (c2 : Nat) (A3 : Option Addr) (c3 : Nat), v = .agg #[.int .i64 (x.1), .slice A1 (x.2.1).length c1, .slice A2 (x.2.2.1).length c2, .slice A3 (x.2.2.2).length c3] := by
 obtain ⟨y0, y1, y2, y3⟩ := x
 obtain ⟨l, rfl, hl⟩ := h
 obtain ⟨u0, r0, rfl, h0, hl0⟩ := hl
 obtain ⟨u1, r1, rfl, h1, hl1⟩ := hl0
 obtain ⟨u2, r2, rfl, h2, hl2⟩ := hl1
 obtain ⟨u3, rfl, h3⟩ := hl2
 have h0 : u0 = .int .i64 y0 := h0
 subst h0
 obtain ⟨A1, c1, rfl, hc1, hr1⟩ := h1
 obtain ⟨A2, c2, rfl, hc2, hr2⟩ := h2
 obtain ⟨A3, c3, rfl, hc3, hr3⟩ := h3
 exact ⟨A1, c1, A2, c2, A3, c3, rfl⟩
end Go.Proofs.YtmgmdnmfalepkaaGreat.HelpSeg

namespace Go.Proofs
open Go.Shelf
def Tryz.lays189_ren : Go.Shelf.Ren := ⟨fun | 189 => 114 | 125 => 122 | 257 => 121 | 128 => 133 | 129 => 134 | 294 => 124 | 295 => 125 | 296 => 126 | 297 => 127 | 298 => 128 | 299 => 129 | 216 => 130 | 300 => 131 | 301 => 132 | 328 => 135 | 329 => 136 | 330 => 137 | 331 => 138 | 332 => 139 | 215 => 140 | 343 => 141 | n => n, fun | 28 => 56 | 3 => 3 | 46 => 125 | 0 => 0 | 51 => 123 | 53 => 158 | 4 => 4 | 183 => 149 | 182 => 148 | 131 => 154 | 5 => 5 | 9 => 9 | 218 => 159 | 222 => 163 | 228 => 165 | 229 => 108 | n => n, fun | n => n⟩
theorem Tryz.lays189 : Go.Proofs.Lays.n189 Tryz.prog Tryz.lays189_ren := {
 mixed := by kernel_rfl
 f125 := Tryz.func122.trans (congrArg some zq5)
 f128 := Tryz.func133.trans (congrArg some zq5)
 f129 := Tryz.func134.trans (congrArg some zq5)
 f189 := Tryz.func114.trans (congrArg some zq5)
 f215 := Tryz.func140.trans (congrArg some zq5)
 f216 := Tryz.func130.trans (congrArg some zq5)
 f257 := Tryz.func121.trans (congrArg some zq5)
 f294 := Tryz.func124.trans (congrArg some zq5)
 f295 := Tryz.func125.trans (congrArg some zq5)
 f296 := Tryz.func126.trans (congrArg some zq5)
 f297 := Tryz.func127.trans (congrArg some zq5)
 f298 := Tryz.func128.trans (congrArg some zq5)
 f299 := Tryz.func129.trans (congrArg some zq5)
 f300 := Tryz.func131.trans (congrArg some zq5)
 f301 := Tryz.func132.trans (congrArg some zq5)
 f328 := Tryz.func135.trans (congrArg some zq5)
 f329 := Tryz.func136.trans (congrArg some zq5)
 f330 := Tryz.func137.trans (congrArg some zq5)
 f331 := Tryz.func138.trans (congrArg some zq5)
 f332 := Tryz.func139.trans (congrArg some zq5)
 f343 := Tryz.func141.trans (congrArg some zq5)
 t0 := Tryz.underlying0
 a0 := Tryz.isAgg0
 z0 := Tryz.sizeOf0
 v0 := Tryz.zeroValue0
 t3 := Tryz.underlying3
 a3 := Tryz.isAgg3
 z3 := Tryz.sizeOf3
 v3 := Tryz.zeroValue3
 t4 := Tryz.underlying4
 a4 := Tryz.isAgg4
 z4 := Tryz.sizeOf4
 v4 := Tryz.zeroValue4
 t5 := Tryz.underlying5
 a5 := Tryz.isAgg5
 z5 := Tryz.sizeOf5
 v5 := Tryz.zeroValue5
 t9 := Tryz.underlying9
 a9 := Tryz.isAgg9
 z9 := Tryz.sizeOf9
 v9 := Tryz.zeroValue9
 t28 := Tryz.underlying56
 a28 := Tryz.isAgg56
 z28 := Tryz.sizeOf56
 v28 := Tryz.zeroValue56
 t46 := Tryz.underlying125
 a46 := Tryz.isAgg125
 z46 := Tryz.sizeOf125
 v46 := Tryz.zeroValue125
 t51 := Tryz.underlying123
 a51 := Tryz.isAgg123
 z51 := Tryz.sizeOf123
 v51 := Tryz.zeroValue123
 t53 := Tryz.underlying158
 a53 := Tryz.isAgg158
 z53 := Tryz.sizeOf158
 v53 := Tryz.zeroValue158
 t131 := Tryz.underlying154
 a131 := Tryz.isAgg154
 z131 := Tryz.sizeOf154
 v131 := Tryz.zeroValue154
 t182 := Tryz.underlying148
 a182 := Tryz.isAgg148
 z182 := Tryz.sizeOf148
 v182 := Tryz.zeroValue148
 t183 := Tryz.underlying149
 a183 := Tryz.isAgg149
 z183 := Tryz.sizeOf149
 v183 := Tryz.zeroValue149
 t218 := Tryz.underlying159
 a218 := Tryz.isAgg159
 z218 := Tryz.sizeOf159
 v218 := Tryz.zeroValue159
 t222 := Tryz.underlying163
 a222 := Tryz.isAgg163
 z222 := Tryz.sizeOf163
 v222 := Tryz.zeroValue163
 t228 := Tryz.underlying165
 a228 := Tryz.isAgg165
 z228 := Tryz.sizeOf165
 v228 := Tryz.zeroValue165
 t229 := Tryz.underlying108
 a229 := Tryz.isAgg108
 z229 := Tryz.sizeOf108
 v229 := Tryz.zeroValue108 }
open Go.Sort Go.RowKit in
theorem Tryz.slices_Sort_int (blk off cap : Nat) (zs : List Int) (w : World) (hH : Holds (Value.int .i64) w blk off zs.toArray) (hblk : blk < w.heap.size) (hsz : zs.length < 4611686018427387904) :
  Calls Tryz.prog 114 #[.slice (some ⟨blk, off, none⟩) zs.length cap] w fun e w' =>
   e = .returned (.tuple #[]) ∧ ∃ n os, w' = grow (putRow (Value.int .i64) (Sort.ahead w n) blk off (zs.mergeSort fun x y => decide (x ≤ y)).toArray) os := Any.slices_Sort_int Tryz.lays189 blk off cap zs w hH hblk hsz
def Tryz.laysNm220_ren : Go.Shelf.Ren := ⟨fun | 20 => 115 | n => n, fun | 22 => 56 | 3 => 3 | 4 => 4 | 0 => 0 | n => n, fun | n => n⟩
theorem Tryz.laysNm220 : Go.Proofs.Lays2.n20 Tryz.prog Tryz.laysNm220_ren := {
 mixed := by kernel_rfl
 f20 := Tryz.func115.trans (congrArg some zq5)
 t0 := Tryz.underlying0
 a0 := Tryz.isAgg0
 z0 := Tryz.sizeOf0
 v0 := Tryz.zeroValue0
 t3 := Tryz.underlying3
 a3 := Tryz.isAgg3
 z3 := Tryz.sizeOf3
 v3 := Tryz.zeroValue3
 t4 := Tryz.underlying4
 a4 := Tryz.isAgg4
 z4 := Tryz.sizeOf4
 v4 := Tryz.zeroValue4
 t22 := Tryz.underlying56
 a22 := Tryz.isAgg56
 z22 := Tryz.sizeOf56
 v22 := Tryz.zeroValue56
 i3 := by kernel_rfl }
open Go.RowKit Go.Lib Go.Sort in
theorem Tryz.slices_Compact_int (blk off cap : Nat) (zs : List Int) (w : World) (hH : Holds (Value.int .i64) w blk off zs.toArray) (hsz : zs.length ≤ 9223372036854775807) (hcap : zs.length ≤ cap) :
  Calls Tryz.prog 115 #[.slice (some ⟨blk, off, none⟩) zs.length cap] w fun e w' => e = .returned (.slice (some ⟨blk, off, none⟩) (Lib.compact zs).length cap) ∧ ∃ q, w' = putRow (Value.int .i64) (Sort.ahead w q) blk off (Lib.compact zs ++ List.replicate (zs.length - (Lib.compact zs).length) 0).toArray := Any.slices_Compact_int Tryz.laysNm220 blk off cap zs w hH hsz hcap
open Go.RowKit Go.Lib Go.Sort in
theorem Tryz.slices_Compact_int_empty (a : Option Addr) (cap : Nat) (w : World) :
  Calls Tryz.prog 115 #[.slice a 0 cap] w fun e w' => e = .returned (.slice a 0 cap) ∧ w' = w := Any.slices_Compact_int_empty Tryz.laysNm220 a cap w
open Go.RowKit Go.Sort in
theorem Tryz.slices_Sort_int_none (p : Option Addr) (cap : Nat) (w : World) :
  Calls Tryz.prog 114 #[.slice p 0 cap] w fun e w' => e = .returned (.tuple #[]) ∧ w' = w := Any.slices_Sort_int_none Tryz.lays189 p cap w
def Tryz.lays187_ren : Go.Shelf.Ren := ⟨fun | 187 => 95 | 255 => 109 | n => n, fun | 37 => 25 | 5 => 5 | 3 => 3 | n => n, fun | n => n⟩
theorem Tryz.lays187 : Go.Proofs.Lays.n187 Tryz.prog Tryz.lays187_ren := {
 mixed := by kernel_rfl
 f187 := Tryz.func95.trans (congrArg some zq5)
 f255 := Tryz.func109.trans (congrArg some zq5)
 t3 := Tryz.underlying3
 a3 := Tryz.isAgg3
 z3 := Tryz.sizeOf3
 v3 := Tryz.zeroValue3
 t5 := Tryz.underlying5
 a5 := Tryz.isAgg5
 z5 := Tryz.sizeOf5
 v5 := Tryz.zeroValue5
 t37 := Tryz.underlying25
 a37 := Tryz.isAgg25
 z37 := Tryz.sizeOf25
 v37 := Tryz.zeroValue25 }
open Go.RowKit Go.Lib in
theorem Tryz.bytes_IndexByte_at (a : Addr) (n c : Nat) (xs : List Int) (cv : Int) (w : World) (hx : xs.length = n) (hc : ∀ i, i < n → w.cell? (a.add i) = some (.int .u8 (xs.getD i 0))) :
  Calls Tryz.prog 95 #[.slice (some a) n c, .int .u8 cv] w fun e w' => e = .returned (.int .i64 (Lib.indexByte (Lib.bytesOf xs) cv.toNat.toUInt8)) ∧ w' = w := Any.bytes_IndexByte_at Tryz.lays187 a n c xs cv w hx hc
def Tryz.lays115_ren : Go.Shelf.Ren := ⟨fun | 115 => 93 | n => n, fun | 37 => 25 | 4 => 4 | 9 => 9 | 5 => 5 | n => n, fun | n => n⟩
theorem Tryz.lays115 : Go.Proofs.Lays.n115 Tryz.prog Tryz.lays115_ren := {
 mixed := by kernel_rfl
 f115 := Tryz.func93.trans (congrArg some zq5)
 t4 := Tryz.underlying4
 a4 := Tryz.isAgg4
 z4 := Tryz.sizeOf4
 v4 := Tryz.zeroValue4
 t9 := Tryz.underlying9
 a9 := Tryz.isAgg9
 z9 := Tryz.sizeOf9
 v9 := Tryz.zeroValue9
 t37 := Tryz.underlying25
 a37 := Tryz.isAgg25
 z37 := Tryz.sizeOf25
 v37 := Tryz.zeroValue25 }
theorem Tryz.bytes_Equal (v1 v2 : Value) (xs ys : List Int) (w : World) (h1 : (convert 25 9 v1).run Tryz.prog w = .ok (.string (strOfNums xs)) w) (h2 : (convert 25 9 v2).run Tryz.prog w = .ok (.string (strOfNums ys)) w) :
  Calls Tryz.prog 93 #[v1, v2] w fun e w' => e = .returned (.bool (Lib.bytesOf xs == Lib.bytesOf ys)) ∧ w' = w := Any.bytes_Equal Tryz.lays115 v1 v2 xs ys w h1 h2
end Go.Proofs

namespace Go.Proofs.YtmgmdnmfalepkaaGreat.Build
open Go.RowKit Go.Proofs.YtmgmdnmfalepkaaGreatW.PrintWords Go.Proofs.YtmgmdnmfalepkaaGreatW.PrintMore Go.Proofs.YtmgmdnmfalepkaaGreat.Kit Go.Proofs.YtmgmdnmfalepkaaGreat.PKit Go.Proofs.YtmgmdnmfalepkaaGreat.Ty Go.Proofs.YtmgmdnmfalepkaaGreat.HelpBB Go.Proofs.YtmgmdnmfalepkaaGreat.PSeg
set_option linter.unusedVariables false
theorem infoBB : (Tryz.prog.info? 25).map (fun i => (i.zero, i.size, i.bytes)) = some (some (.slice none 0 0), 1, 24) := by kernel_rfl
theorem infoB : (Tryz.prog.info? 5).map (fun i => (i.zero, i.size, i.bytes)) = some (some (.int .u8 0), 1, 1) := by kernel_rfl
theorem cellB {w : World} {ad : Addr} {n : Nat} {xs : List Int} (h : Kd.C (Kd.int .u8) w (some ad) n xs) (i : Nat) (hi : i < n) : w.cell? (ad.add i) = some (.int .u8 (xs.getD i 0)) := by
 obtain ⟨ad', c, e, _, hK, hc0⟩ := Kd.C_get h 0 (i : Int) zq1 zq1
 cases e
 rw [Int.toNat_natCast] at hK hc0
 have hk : c = [.int .u8 (xs.getD i 0)] := hK
 subst hk
 have := hc0 0 _ rfl
 simpa [Kd.int, Kd.scalar] using this
theorem index_neg (t : List Int) (hb : ∀ x ∈ t, 0 ≤ x ∧ x ≤ 255) : decide (Go.Lib.indexByte (Go.Lib.bytesOf t) ((10 : Int).toNat.toUInt8) < 0) = decide (10 ∉ t) := by
 induction t with
 | nil => rfl
 | cons x r ih =>
  have ih := ih (fun y hy => hb y (List.mem_cons_of_mem _ hy))
  obtain ⟨b0, b1⟩ := hb x (List.mem_cons_self ..)
  have e : Go.Lib.bytesOf (x :: r) = UInt8.ofNat x.toNat :: Go.Lib.bytesOf r := rfl
  rw [e]
  unfold Go.Lib.indexByte
  by_cases h10 : x = 10
  ·subst h10
   rw [if_pos zq16, decide_eq_false zq1, decide_eq_false zq12]
  ·have hne : (UInt8.ofNat x.toNat == (10 : Int).toNat.toUInt8) = false := by
    rw [beq_eq_false_iff_ne]
    intro h
    have h2 := congrArg UInt8.toNat h
    rw [UInt8.toNat_ofNat'] at h2
    have h3 : ((10 : Int).toNat.toUInt8).toNat = 10 := rfl
    rw [h3] at h2
    omega
   have em : decide (10 ∉ x :: r) = decide (10 ∉ r) := decide_eq_decide.2 (by
    constructor
    ·exact fun h hm => h (List.mem_cons_of_mem _ hm)
    ·exact fun h hm => by
      rcases List.mem_cons.1 hm with e | hm
      ·exact h10 e.symm
      ·exact h hm)
   rw [hne, if_neg zq12, em, ← ih]
   have hge := Go.Lib.indexByte_ge (Go.Lib.bytesOf r) ((10 : Int).toNat.toUInt8)
   generalize Go.Lib.indexByte (Go.Lib.bytesOf r) ((10 : Int).toNat.toUInt8) = q at hge ⊢
   by_cases hq : q = -1
   ·subst hq
    rfl
   ·have : (q == -1) = false := by rw [beq_eq_false_iff_ne]; exact hq
    rw [this, if_neg zq12]
    exact decide_eq_decide.2 zq1
set_option maxRecDepth 100000 in
theorem index_none (c : Nat) (cv : Int) (w : World) :
  Calls Tryz.prog 95 #[.slice none 0 c, .int .u8 cv] w fun e w' => e = .returned (.int .i64 (-1)) ∧ w' = w := by
 go_enter Tryz.func95, Tryz.ntmps95
 go_wp2
 rw [run_callFunc_extern Tryz.func109 zq5 zq5 zq5 (e := Extern.BytealgIndexByte.indexByte) zq5, Lib.run_indexByteNil w 0 c cv]
 simp only [Result.andThen]
 rw [Oper.upon_value]
 go_wp2
 go_ret
 exact ⟨rfl, rfl⟩
theorem index_calls (A : Option Addr) (c : Nat) (t : List Int) (w : World) (hr : Kd.C (Kd.int .u8) w A t.length t) (hc : t.length ≤ c) (hb : ∀ x ∈ t, 0 ≤ x ∧ x ≤ 255) :
  Calls Tryz.prog 95 #[.slice A t.length c, .int .u8 10] w fun e w' => (∃ q : Int, e = .returned (.int .i64 q) ∧ decide (q < 0) = decide (10 ∉ t)) ∧ w' = w := by
 rcases A with _ | ad
 ·have h0 : t = [] := by
   rcases t with _ | ⟨x, r⟩
   ·rfl
   ·obtain ⟨ad, h, _⟩ := hr.2.2 zq12
    cases h
  subst h0
  refine (index_none c 10 w).mono ?_
  rintro e w' ⟨rfl, rfl⟩
  exact ⟨⟨-1, rfl, zq15⟩, rfl⟩
 ·refine (Tryz.bytes_IndexByte_at ad t.length c t 10 w rfl (fun i hi => cellB hr i hi)).mono ?_
  rintro e w' ⟨rfl, rfl⟩
  exact ⟨⟨_, rfl, index_neg t hb⟩, rfl⟩
theorem one_calls (A : Option Addr) (c : Nat) (t : List Int) (w : World) (hr : Kd.C (Kd.int .u8) w A t.length t) (hc : t.length ≤ c) (hb : ∀ x ∈ t, 0 ≤ x ∧ x ≤ 255) :
  Calls Tryz.prog 73 #[.slice A t.length c] w fun e w' => e = .returned (.bool (decide (10 ∉ t))) ∧ w' = w := by
 have hi := index_calls A c t w hr hc hb
 clear hr hc hb
 go_enter Tryz.func73, Tryz.ntmps73
 go_wp2_with (go_at_call 95; refine hi.mono ?_; rintro e w' ⟨⟨q, rfl, hq⟩, rfl⟩)
 go_ret
 exact ⟨zq12, rfl⟩
set_option maxHeartbeats 2000000 in
theorem total_calls (A : Option Addr) (c : Nat) (ls : List (List Int)) (w : World) (hr : Kd.C kB w A ls.length ls) (hc : ls.length ≤ c) (hs : smallBB ls) :
  Calls Tryz.prog 54 #[.slice A ls.length c] w fun e w' => e = .returned (.int .i64 (totalB ls : Int)) ∧ w' = w := by
 have hs' : ls.length + totalB ls ≤ 1048576 := hs
 have HR := zA hr
 clear hr
 go_enter Tryz.func54, Tryz.ntmps54
 go_wp2
 go_loopg [3, 8] ls.length (fun gg s3 s8 wr => ∃ i : Nat, i ≤ ls.length ∧ ls.length - i ≤ gg ∧ s3 = .int .i64 (totalB (ls.take i) : Int) ∧ s8 = .int .i64 i ∧ wr = w)
 case atStart => exact ⟨0, zq1, zq1, by simp [totalB], rfl, rfl⟩
 case round =>
  obtain ⟨i, hi, hg, rfl, rfl, rfl⟩ := hrel
  by_cases hlt : i < ls.length
  ·have hltz : (i : Int) < (ls.length : Int) := by omega
   have ht := total_take ls (i + 1)
   rw [total_drop ls i hlt] at ht
   obtain ⟨ad, u, rfl, hcell, hK⟩ := get_one (d := kB) rfl HR.out [] i hlt
   obtain ⟨A', c', e', hc', hr'⟩ := hK
   obtain rfl : u = .slice A' (ls.getD i []).length c' := by injection e'
   clear hc' hr' e'
   have hd := total_drop ls i hlt
   generalize hx : ls.getD i [] = l at ht hcell hd
   clear hx
   go_wp2
   go_roundg (ls.length - (i + 1))
   case measure => omega
   case rel => exact ⟨i + 1, zq1, zq1, by rw [hd]; go_num, by go_num, rfl⟩
  ·have hltz : ¬ (i : Int) < (ls.length : Int) := by omega
   obtain rfl : i = ls.length := by omega
   go_wp2
   go_ret
   exact ⟨by first | rfl | simp, rfl⟩
theorem R_empty (W : World) : Kd.R (Kd.int .u8) 5 (W.alloc (.cells #[] 5)) W.heap.size (fun _ => True) (.slice (some ⟨W.heap.size, 0, none⟩) 0 0) [] :=
 Kd.R_of_own (xs := ([] : List Int)) ⟨rfl, .inr ⟨W.heap.size, 0, #[], rfl, Nat.le_refl _, heap_alloc_new W _, zq12, by simp [maxLen], rfl, rfl⟩⟩ (fun _ _ => trivial)
set_option maxRecDepth 100000 in
set_option maxHeartbeats 4000000 in
theorem copy_calls (A : Option Addr) (c : Nat) (ls : List (List Int)) (w : World) (hr : Kd.C kB w A ls.length ls) (hc : ls.length ≤ c) (hs : smallBB ls) :
  Calls Tryz.prog 74 #[.slice A ls.length c] w fun e w' => ∃ v, e = .returned v ∧ Kd.S kB 25 w' w.heap.size (fun _ => True) v ls ∧ Grew w w' := by
 have hs' : ls.length + totalB ls ≤ 1048576 := hs
 have HR := zA hr
 clear hr
 go_enter Tryz.func74, Tryz.ntmps74
 go_wp2
 go_loopg [3, 9] ls.length (fun gg s3 s9 wr => ∃ i : Nat, i ≤ ls.length ∧ ls.length - i ≤ gg ∧ s9 = .int .i64 i ∧ Aside0 (Kd.S kB 25 wr w.heap.size (fun _ => True) s3 (ls.take i)) ∧ Aside0 (Below w.heap.size w wr))
 case atStart => exact ⟨0, zq1, zq1, rfl, ⟨⟨fun _ => 0, fun _ _ => trivial, [], ⟨rfl, .inr ⟨w.heap.size, 0, #[], rfl, Nat.le_refl _, heap_alloc_new w _, zq12, by simp [maxLen], rfl, rfl⟩⟩, Reps.none _ _⟩⟩, ⟨below_alloc (Below.refl _ _) _⟩⟩
 case round =>
  obtain ⟨i, hi, hg, rfl, HS, HB⟩ := hrel
  by_cases hlt : i < ls.length
  ·have hltz : (i : Int) < (ls.length : Int) := by omega
   have ht := getD_len ls i
   obtain ⟨ad, u, rfl, hcell0, hK⟩ := get_one (d := kB) rfl HR.out [] i hlt
   obtain ⟨A', c', e', hc', hr'⟩ := hK
   obtain rfl : u = .slice A' (ls.getD i []).length c' := by injection e'
   have hcell : wr.cell? (ad.add i) = some (.slice A' (ls.getD i []).length c') := (HB.out.cell (World.block_lt_of_cell? w _ hcell0)).trans hcell0
   have HC := zA (Kd.C_below hr' HB.out)
   have hts := take_snoc ls i hlt
   clear hr' e' hcell0
   generalize hx : ls.getD i [] = l at ht hcell HC hts hc'
   clear hx
   go_wp2_with (first | (at_builtin; refine Kd.R_append_rows (Kd.int .u8) (Rr := (Kd.int .u8).K wr) (w0 := wr) wr.heap.size rfl (.tmp 14) (.tmp 15) 25 5 (.int .u8 0) 1 rfl Tryz.underlying25 infoB rfl zq15 zq15 (.slice (some ⟨wr.heap.size, 0, none⟩) 0 0) [] l A' l.length c' (fun _ => True) (fun _ => False) rfl rfl (R_empty wr) (Kd.C_alloc HC.out _) (fun x cs h => h) (fun _ h => h.elim) (fun _ _ => trivial) (below_alloc (Below.refl _ _) _) zq12 zq35 ?_; rintro v1 w1 hR1 hB1 hg1 hat1; rw [List.nil_append] at hR1; obtain ⟨Av, cv, rfl⟩ := Kd.R_slice hR1) | (at_builtin; refine Kd.S_append kB (w0 := w) w.heap.size rfl (.tmp 13) (.tmp 17) 22 25 (.slice none 0 0) 24 rfl Tryz.underlying22 infoBB rfl zq15 zq1 u3 (ls.take i) l [.slice Av l.length cv] (fun _ => True) (fun k_ => some k_ = (.slice Av l.length cv : Value).ownBlock) rfl rfl ?aP ?aK (fun _ _ => trivial) ?aO ?aB ?aS ?aL ?_; (case aP => exact Kd.M_row (Kd.R_lower (Kd.R_tight rfl hR1) HB.out.size)); (case aK => exact fun k hk => ⟨trivial, fun e => by have h1 := Kd.R_base hR1 k hk.symm; have h2 := Kd.S_lt HS.out k e.symm; omega⟩); (case aO => exact Kd.S_mono (Kd.S_old HS.out hB1) (fun k hk => ⟨trivial, fun e => by have h1 := Kd.R_base hR1 k e.symm; have h2 := hk.2; omega⟩)); (case aB => exact grew_trans HB.out hB1); (case aS => exact (grew_trans HB.out hB1).size); (case aL => (rw [List.length_take]; omega)); intro v2 w2 hO2 hB2 hg2 hat2))
   go_roundg (ls.length - (i + 1))
   case measure => omega
   case rel => exact ⟨i + 1, zq1, zq1, by go_num, ⟨by rw [hts]; exact hO2⟩, ⟨hB2⟩⟩
  ·have hltz : ¬ (i : Int) < (ls.length : Int) := by omega
   obtain rfl : i = ls.length := by omega
   have h2 := HS.out
   rw [List.take_length] at h2
   have H2 := zA h2
   clear h2
   go_wp2
   go_ret
   exact ⟨_, rfl, H2.out, HB.out⟩
end Go.Proofs.YtmgmdnmfalepkaaGreat.Build

namespace Go.Proofs.YtmgmdnmfalepkaaGreat.PSort
open Go.RowKit Go.Proofs.YtmgmdnmfalepkaaGreatW.PrintWords Go.Proofs.YtmgmdnmfalepkaaGreat.PKit
theorem upTo_spec (zs : List Int) (hs : zs.Pairwise (· ≤ ·)) : ∀ m, m ≤ zs.length → Asc (Go.Lib.compactUpTo zs.toArray m) ∧ ∀ x, x ∈ Go.Lib.compactUpTo zs.toArray m ↔ x ∈ zs.take m := by
  intro m
  induction m with
  | zero =>
    intro _
    have e : Go.Lib.compactUpTo zs.toArray 0 = [] := rfl
    rw [e]
    simp
  | succ m ih =>
    intro hm
    obtain ⟨h1, h2⟩ := ih zq1
    have ht : zs.take (m + 1) = zs.take m ++ [zs[m]] := List.take_succ_eq_append_getElem zq1
    have hg : zs.toArray[m]! = zs[m] := by simp [getElem!_pos, show m < zs.length by omega]
    have hmon : ∀ i j (hi : i < zs.length) (hj : j < zs.length), i < j → zs[i] ≤ zs[j] := fun i j hi hj hij => List.pairwise_iff_getElem.1 hs i j hi hj hij
    rw [Go.Lib.compactUpTo_succ, ht]
    by_cases hk : Go.Lib.keeps zs.toArray m = true
    · rw [if_pos hk, hg]
      constructor
      · refine List.pairwise_append.2 ⟨h1, zq12, fun a ha b hb => ?_⟩
        obtain rfl : b = zs[m] := by simpa using hb
        have ha' := (h2 a).1 ha
        obtain ⟨i, hi, rfl⟩ := List.getElem_of_mem ha'
        rw [List.length_take] at hi
        rw [List.getElem_take]
        have hm0 : m ≠ 0 := by omega
        unfold Go.Lib.keeps at hk
        have hk := of_decide_eq_true hk
        rcases hk with hk | hk
        · exact absurd hk hm0
        · have hg1 : zs.toArray[m - 1]! = zs[m - 1] := by simp [getElem!_pos, show m - 1 < zs.length by omega]
          rw [hg, hg1] at hk
          have e1 : zs[i] ≤ zs[m - 1] := by
            by_cases hi1 : i = m - 1
            · subst hi1; exact Int.le_refl _
            · exact hmon i (m - 1) zq1 zq1 zq1
          have e2 := hmon (m - 1) m zq1 zq1 zq1
          omega
      · intro x
        rw [List.mem_append, List.mem_append, h2 x]
    · rw [if_neg hk, List.append_nil]
      refine ⟨h1, fun x => ?_⟩
      rw [h2 x, List.mem_append]
      constructor
      · exact .inl
      · rintro (h | h)
        · exact h
        · obtain rfl : x = zs[m] := by simpa using h
          unfold Go.Lib.keeps at hk
          have hk : ¬ (m = 0 ∨ zs.toArray[m]! ≠ zs.toArray[m - 1]!) := fun hh => hk (decide_eq_true hh)
          have hm0 : m ≠ 0 := fun e => hk (.inl e)
          have hg1 : zs.toArray[m - 1]! = zs[m - 1] := by simp [getElem!_pos, show m - 1 < zs.length by omega]
          have he : zs[m] = zs[m - 1] := by
            have := Decidable.not_not.1 (fun hh => hk (.inr hh))
            rwa [hg, hg1] at this
          rw [he]
          exact List.mem_take_iff_getElem.2 ⟨m - 1, zq1, rfl⟩
theorem compact_sorted (l zs : List Int) (hs : zs.Pairwise (· ≤ ·)) (hm : ∀ x, x ∈ zs ↔ x ∈ l) : Go.Lib.compact zs = ord l := by
  obtain ⟨h1, h2⟩ := upTo_spec zs hs zs.length (Nat.le_refl _)
  refine ord_unique h1 (fun x => ?_)
  have h3 := h2 x
  rw [List.take_length, hm x] at h3
  exact h3
theorem sorted_pairwise (l : List Int) : (l.mergeSort fun x y => decide (x ≤ y)).Pairwise (· ≤ ·) := by
  have := List.pairwise_mergeSort (le := fun x y : Int => decide (x ≤ y)) (fun a b c h1 h2 => by simp at h1 h2 ⊢; omega) (fun a b => by simp; omega) l
  exact this.imp (fun h => by simpa using h)
theorem sort_compact (l : List Int) : Go.Lib.compact (l.mergeSort fun x y => decide (x ≤ y)) = ord l :=
 compact_sorted l _ (sorted_pairwise l) (fun _ => List.mem_mergeSort)
end Go.Proofs.YtmgmdnmfalepkaaGreat.PSort

namespace Go.Proofs.YtmgmdnmfalepkaaGreat.SortI
open Go.RowKit Go.Sort Go.Proofs.YtmgmdnmfalepkaaGreatW.PrintWords Go.Proofs.YtmgmdnmfalepkaaGreatW.PrintMore Go.Proofs.YtmgmdnmfalepkaaGreat.Kit Go.Proofs.YtmgmdnmfalepkaaGreat.PKit Go.Proofs.YtmgmdnmfalepkaaGreat.PSort
set_option linter.unusedVariables false
abbrev srt (l : List Int) : List Int := l.mergeSort fun x y => decide (x ≤ y)
theorem srt_length (l : List Int) : (srt l).length = l.length := List.length_mergeSort l
theorem encs_int (xs : List Int) : encs (Value.int .i64) xs = xs.map (Value.int .i64) := rfl
theorem R_block {w : World} {base : Nat} {ok : Nat → Prop} {v : Value} {xs : List Int} (h : Kd.R (Kd.int .i64) 3 w base ok v xs) :
  (v = .slice none 0 0 ∧ xs = []) ∨ ∃ g cap cur, v = .slice (some ⟨g, 0, none⟩) xs.length cap ∧ base ≤ g ∧ ok g ∧ w.heap[g]? = some (.cells cur 3 (0, 0)) ∧ xs.length ≤ cap ∧ cap ≤ maxLen ∧ cur.size = cap * 1 ∧ cur.toList.take xs.length = xs.map (Value.int .i64) := by
 have ho := Kd.own_of_R h
 rcases ho.2 with ⟨rfl, hn⟩ | ⟨g, cap, cur, rfl, hg, hb, h1, h2, h3, h4⟩
 ·exact .inl ⟨rfl, List.eq_nil_of_length_eq_zero hn⟩
 ·exact .inr ⟨g, cap, cur, rfl, hg, h.1 g rfl, hb, h1, h2, h3, by simpa [encs_int] using h4⟩
theorem sort_calls (v : Value) (xs : List Int) (base : Nat) (ok : Nat → Prop) (w : World) (h : Kd.R (Kd.int .i64) 3 w base ok v xs) (hl : xs.length < 4611686018427387904) :
  Calls Tryz.prog 114 #[v] w fun e w' => e = .returned (.tuple #[]) ∧ Kd.R (Kd.int .i64) 3 w' base ok v (srt xs) ∧ w.grownBy w' v.ownBlock := by
 rcases R_block h with ⟨rfl, rfl⟩ | ⟨g, cap, cur, rfl, hg, hok, hb, h1, h2, h3, h4⟩
 ·refine (Tryz.slices_Sort_int_none none 0 w).mono ?_
  rintro e w' ⟨rfl, rfl⟩
  exact ⟨rfl, by simpa [srt] using h, World.grownBy.refl _ _⟩
 ·refine (Tryz.slices_Sort_int g 0 cap xs w (holds_of_blockI hb h4) (Array.getElem?_eq_some_iff.1 hb).1 hl).mono ?_
  rintro e w' ⟨rfl, n, os, rfl⟩
  refine ⟨rfl, ?_, grownBy_sortedI _⟩
  have ho := ownsRow_sortedI (n := n) (os := os) (ts := srt xs) (srt_length xs) hg hb h1 h2 h3
  refine Kd.R_of_own (by rw [srt_length]; exact ho) (fun k hk => ?_)
  have : g = k := by simpa [Value.ownBlock] using hk
  subst this
  exact hok
theorem grow_nil (W : World) : grow W #[] = W := by simp [grow]
theorem compact_len (xs : List Int) : (Go.Lib.compact xs).length ≤ xs.length := by
 unfold Go.Lib.compact Go.Lib.compactUpTo
 rw [List.length_map]
 refine Nat.le_trans (List.length_filter_le _ _) ?_
 simp
theorem compact_calls (v : Value) (xs : List Int) (base : Nat) (ok : Nat → Prop) (w : World) (h : Kd.R (Kd.int .i64) 3 w base ok v xs) :
  Calls Tryz.prog 115 #[v] w fun e w' => ∃ v', e = .returned v' ∧ Kd.R (Kd.int .i64) 3 w' base ok v' (Go.Lib.compact xs) ∧ w.grownBy w' v.ownBlock := by
 rcases R_block h with ⟨rfl, rfl⟩ | ⟨g, cap, cur, rfl, hg, hok, hb, h1, h2, h3, h4⟩
 ·refine (Tryz.slices_Compact_int_empty none 0 w).mono ?_
  rintro e w' ⟨rfl, rfl⟩
  exact ⟨_, rfl, Kd.R_nil _ _ _ _ _, World.grownBy.refl _ _⟩
 ·refine (Tryz.slices_Compact_int g 0 cap xs w (holds_of_blockI hb h4) (by unfold maxLen at h2; omega) h1).mono ?_
  rintro e w' ⟨rfl, q, rfl⟩
  refine ⟨_, rfl, ?_, by have := grownBy_sortedI (w := w) (g := g) (n := q) (os := #[]) (Go.Lib.compact xs ++ List.replicate (xs.length - (Go.Lib.compact xs).length) 0).toArray; rwa [grow_nil] at this⟩
  have hcl := compact_len xs
  have hlen : (Go.Lib.compact xs ++ List.replicate (xs.length - (Go.Lib.compact xs).length) 0).length = xs.length := by simp; omega
  have ho := ownsRow_sortedI (n := q) (os := #[]) (ts := Go.Lib.compact xs ++ List.replicate (xs.length - (Go.Lib.compact xs).length) 0) hlen hg hb h1 h2 h3
  have hR : Kd.R (Kd.int .i64) 3 _ base ok (.slice (some ⟨g, 0, none⟩) xs.length cap) (Go.Lib.compact xs ++ List.replicate (xs.length - (Go.Lib.compact xs).length) 0) := Kd.R_of_own (by rw [hlen]; exact ho) (fun k hk => by
   have : g = k := by simpa [Value.ownBlock] using hk
   subst this
   exact hok)
  have ht := Kd.R_take hR (m := (Go.Lib.compact xs).length) (by rw [hlen]; exact hcl)
  rw [List.take_left' rfl, grow_nil] at ht
  exact ht
end Go.Proofs.YtmgmdnmfalepkaaGreat.SortI

namespace Go.Proofs
open Go.Shelf
def Tryz.sorted103_ren : Go.Shelf.Ren := ⟨fun | 6 => 103 | 8 => 116 | 9 => 114 | 11 => 123 | 13 => 122 | 12 => 121 | 23 => 133 | 24 => 134 | 14 => 124 | 15 => 125 | 16 => 126 | 17 => 127 | 18 => 128 | 19 => 129 | 20 => 130 | 21 => 131 | 22 => 132 | 25 => 135 | 26 => 136 | 27 => 137 | 28 => 138 | 29 => 139 | 30 => 140 | 31 => 141 | n => n, fun | 26 => 3 | 28 => 132 | 24 => 56 | 0 => 0 | 3 => 3 | 37 => 125 | 48 => 123 | 50 => 158 | 4 => 4 | 40 => 149 | 39 => 148 | 45 => 154 | 5 => 5 | 9 => 9 | 51 => 159 | 55 => 163 | 57 => 165 | 58 => 108 | 33 => 139 | n => n, fun | n => n⟩
theorem Tryz.sorted103 : Go.Proofs.SlLaysZI.n6 Tryz.prog Tryz.sorted103_ren := {
 mixed := by kernel_rfl
 f6 := ⟨Tryz.f103.name, zq15, Tryz.func103.trans (congrArg some zq5)⟩
 f8 := ⟨Tryz.f116.name, zq15, Tryz.func116.trans (congrArg some zq5)⟩
 f11 := ⟨Tryz.f123.name, zq15, Tryz.func123.trans (congrArg some zq5)⟩
 t0 := Tryz.underlying0
 a0 := Tryz.isAgg0
 z0 := Tryz.sizeOf0
 v0 := Tryz.zeroValue0
 t24 := Tryz.underlying56
 a24 := Tryz.isAgg56
 z24 := Tryz.sizeOf56
 v24 := Tryz.zeroValue56
 t26 := Tryz.underlying3
 a26 := Tryz.isAgg3
 z26 := Tryz.sizeOf3
 v26 := Tryz.zeroValue3
 t28 := Tryz.underlying132
 a28 := Tryz.isAgg132
 z28 := Tryz.sizeOf132
 v28 := Tryz.zeroValue132
 i26 := by kernel_rfl }
def Tryz.keys104_ren : Go.Shelf.Ren := ⟨fun | 7 => 104 | 10 => 117 | n => n, fun | 23 => 129 | 26 => 3 | 3 => 56 | 28 => 132 | 0 => 0 | 27 => 131 | 33 => 139 | 4 => 4 | n => n, fun | n => n⟩
theorem Tryz.keys104 : Go.Proofs.SlLaysZI.n7 Tryz.prog Tryz.keys104_ren := {
 mixed := by kernel_rfl
 f7 := ⟨Tryz.f104.name, zq15, Tryz.func104.trans (congrArg some zq5)⟩
 f10 := ⟨Tryz.f117.name, zq15, Tryz.func117.trans (congrArg some zq5)⟩
 t0 := Tryz.underlying0
 a0 := Tryz.isAgg0
 z0 := Tryz.sizeOf0
 v0 := Tryz.zeroValue0
 t4 := Tryz.underlying4
 a4 := Tryz.isAgg4
 z4 := Tryz.sizeOf4
 v4 := Tryz.zeroValue4
 t23 := Tryz.underlying129
 a23 := Tryz.isAgg129
 z23 := Tryz.sizeOf129
 v23 := Tryz.zeroValue129
 t26 := Tryz.underlying3
 a26 := Tryz.isAgg3
 z26 := Tryz.sizeOf3
 v26 := Tryz.zeroValue3
 t27 := Tryz.underlying131
 a27 := Tryz.isAgg131
 z27 := Tryz.sizeOf131
 v27 := Tryz.zeroValue131
 t28 := Tryz.underlying132
 a28 := Tryz.isAgg132
 z28 := Tryz.sizeOf132
 v28 := Tryz.zeroValue132
 t33 := Tryz.underlying139
 a33 := Tryz.isAgg139
 z33 := Tryz.sizeOf139
 v33 := Tryz.zeroValue139 }
end Go.Proofs
