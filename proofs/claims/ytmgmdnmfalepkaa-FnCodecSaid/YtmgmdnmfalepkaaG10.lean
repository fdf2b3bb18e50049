/- Parts of the proof (see the row's own text): PEnc, PSum, Lin, HelpI, HelpII, Lsame, Lencs, PVal, Sz, Lszs, HelpSeg. -/
import Derived.Test.YtmgmdnmfalepkaaG00
import Derived.Test.YtmgmdnmfalepkaaG8
import Derived.Test.YtmgmdnmfalepkaaG9
import Derived.Laws.BitsLemmas
import Derived.Test.YtmgmdnmfalepkaaG4
import Derived.Test.YtmgmdnmfalepkaaG6
import Derived.Test.YtmgmdnmfalepkaaG7
namespace Go.Proofs.Ytmgmdnmfalepkaa.PEnc
open Go.RowKit Go.Proofs.YtmgmdnmfalepkaaW.PrintWords Go.Proofs.Ytmgmdnmfalepkaa.PKit Go.Proofs.Ytmgmdnmfalepkaa.POrd Go.Proofs.Ytmgmdnmfalepkaa.PTri Go.Proofs.Ytmgmdnmfalepkaa.PSeg Go.Proofs.Ytmgmdnmfalepkaa.L Go.Proofs.Ytmgmdnmfalepkaa.HelpBB
set_option linter.unusedVariables false
def varint (n : Nat) : List Int := if h : n < 128 then [(n : Int)] else ((n % 128 + 128 : Nat) : Int) :: varint (n / 128)
termination_by n
decreasing_by omega
theorem varint_lt {n : Nat} (h : n < 128) : varint n = [(n : Int)] := by rw [varint, dif_pos h]
theorem varint_ge {n : Nat} (h : ¬ n < 128) : varint n = ((n % 128 + 128 : Nat) : Int) :: varint (n / 128) := by
 conv => lhs; rw [varint]
 rw [dif_neg h]
theorem varint_len : ∀ (k n : Nat), n < 128 ^ (k + 1) → (varint n).length ≤ k + 1 := by
 intro k
 induction k with
 | zero =>
  intro n hn
  rw [varint_lt (by simpa using hn)]
  simp
 | succ k ih =>
  intro n hn
  by_cases h : n < 128
  ·rw [varint_lt h]
   simp
  ·rw [varint_ge h]
   have := ih (n / 128) (by rw [Nat.div_lt_iff_lt_mul zq13]; rw [Nat.pow_succ] at hn; exact hn)
   simp only [List.length_cons]
   omega
theorem varint_len10 {n : Nat} (h : n < 4611686018427387904) : (varint n).length ≤ 9 := varint_len 8 n zq3
theorem varint_bytes (n : Nat) : ∀ x ∈ varint n, 0 ≤ x ∧ x ≤ 255 := by
 induction n using Nat.strongRecOn with
 | _ n ih =>
  intro x hx
  by_cases h : n < 128
  ·rw [varint_lt h] at hx
   rw [List.mem_singleton.1 hx]
   omega
  ·rw [varint_ge h] at hx
   rcases List.mem_cons.1 hx with e | hx
   ·rw [e]
    omega
   ·exact ih (n / 128) zq3 x hx
theorem varint_ev : ∀ (n : Nat), n < 4611686018427387904 → Ev (fun k => spec_l4varint.f k (n : Int)) (varint n) := by
 intro n
 induction n using Nat.strongRecOn with
 | _ n ih =>
  intro hn
  by_cases h : n < 128
  ·rw [varint_lt h]
   refine Ev.step (f := fun _ => some [(n : Int)]) (fun k => ?_) (Ev.now _)
   simp only [spec_l4varint.f]
   rw [if_pos zq3]
   congr 2
   omega
  ·have hd : wrap64 (Int.tdiv (n : Int) 128) = ((n / 128 : Nat) : Int) := by
    rw [wrap_in (by have h1 : Int.tdiv (n : Int) 128 = ((n / 128 : Nat) : Int) := rfl; rw [h1]; omega)]
    rfl
   have hm : wrap64 (Int.tmod (n : Int) 128 + 128) = ((n % 128 + 128 : Nat) : Int) := by
    have h1 : Int.tmod (n : Int) 128 = ((n % 128 : Nat) : Int) := rfl
    rw [h1, wrap_in zq3]
    omega
   have hl := varint_len10 (n := n / 128) zq3
   rw [varint_ge h]
   refine Ev.step (f := fun k => (spec_l4varint.f k ((n / 128 : Nat) : Int)).bind fun t330 => (if [((n % 128 + 128 : Nat) : Int)].length + t330.length < 140737488355328 then (some ([((n % 128 + 128 : Nat) : Int)] ++ t330)) else none)) (fun k => ?_) (Ev.bind (ih (n / 128) zq3 zq3) ?_)
   ·simp only [spec_l4varint.f]
    rw [if_neg zq3, hm, hd, Option.bind_some, show ((n % 128 + 128 : Nat) : Int) % 256 = ((n % 128 + 128 : Nat) : Int) by omega]
   ·refine Ev.congr (f := fun _ => some _) (fun k => ?_) (Ev.now _)
    rw [if_pos (by simp only [List.length_singleton]; omega)]
    rfl
def gap (K : List Int) (j : Nat) : Int := if j = 0 then K.getD 0 0 else K.getD j 0 - K.getD (j - 1) 0
def del (b : Int) (P : List Int) (i : Nat) : Int := if i = 0 then P.getD 0 0 - b else P.getD i 0 - P.getD (i - 1) 0
def flat (f : Nat → List Int) (n : Nat) : List Int := (List.range n).flatMap f
theorem flat_succ (f : Nat → List Int) (n : Nat) : flat f (n + 1) = flat f n ++ f n := by simp [flat, List.range_succ]
theorem flat_len {f : Nat → List Int} {m : Nat} : ∀ n, (∀ i, i < n → (f i).length ≤ m) → (flat f n).length ≤ n * m := by
 intro n
 induction n with
 | zero => intro _; simp [flat]
 | succ n ih =>
  intro h
  rw [flat_succ, List.length_append, Nat.add_mul]
  have h1 := ih (fun i hi => h i zq3)
  have h2 := h n zq3
  omega
def line (ls : List (List Int)) (i : Nat) : List Int := varint (ls.getD i []).length ++ ls.getD i []
def dels (b : Int) (P : List Int) (n : Nat) : List Int := flat (fun i => varint (del b P i).toNat) n
def grp (b : Int) (K : List Int) (Ps : List (List Int)) (j : Nat) : List Int := varint (gap K j).toNat ++ varint (Ps.getD j []).length ++ dels b (Ps.getD j []) (Ps.getD j []).length
def head (b : Int) (ls : List (List Int)) : List Int := [84, 71] ++ varint b.toNat ++ varint ls.length
def body (s : SegT) : List Int := head s.1 s.2.1 ++ flat (line s.2.1) s.2.1.length ++ varint s.2.2.1.length ++ flat (grp s.1 s.2.2.1 s.2.2.2) s.2.2.1.length
structure EncOk (s : SegT) : Prop where
 b0 : 0 ≤ s.1
 b1 : s.1 ≤ 1000
 l1 : s.2.1.length ≤ 1000
 t1 : totalB s.2.1 ≤ 20000
 k1 : s.2.2.1.length ≤ 20000
 pk : s.2.2.2.length = s.2.2.1.length
 p1 : ∀ j, (s.2.2.2.getD j []).length ≤ 1000
 g1 : ∀ j, j < s.2.2.1.length → 0 ≤ gap s.2.2.1 j ∧ gap s.2.2.1 j ≤ 16777216
 d1 : ∀ j i, j < s.2.2.1.length → i < (s.2.2.2.getD j []).length → 0 ≤ del s.1 (s.2.2.2.getD j []) i ∧ del s.1 (s.2.2.2.getD j []) i ≤ 1000
 kb : ∀ j, -9223372036854775808 ≤ s.2.2.1.getD j 0 ∧ s.2.2.1.getD j 0 ≤ 9223372036854775807
theorem line_len (ls : List (List Int)) (i : Nat) (h : totalB ls ≤ 20000) : (line ls i).length ≤ 20010 := by
 have h1 := getD_len ls i
 have h2 := varint_len10 (n := (ls.getD i []).length) zq3
 unfold line
 rw [List.length_append]
 omega
theorem dels_len {b : Int} {P : List Int} {n : Nat} (h : ∀ i, i < n → del b P i ≤ 1000) : (dels b P n).length ≤ n * 9 :=
 flat_len n (fun i hi => varint_len10 (by have := h i hi; omega))
theorem head_len {b : Int} {ls : List (List Int)} (h : b ≤ 1000) (h2 : ls.length ≤ 1000) : (head b ls).length ≤ 20 := by
 have h3 := varint_len10 (n := b.toNat) zq3
 have h4 := varint_len10 (n := ls.length) zq3
 unfold head
 simp only [List.length_append, List.length_cons, List.length_nil]
 omega
theorem grp_len {s : SegT} (h : EncOk s) (j : Nat) (hj : j < s.2.2.1.length) : (grp s.1 s.2.2.1 s.2.2.2 j).length ≤ 9018 := by
 have h1 := varint_len10 (n := (gap s.2.2.1 j).toNat) (by have := (h.g1 j hj).2; omega)
 have h2 := varint_len10 (n := (s.2.2.2.getD j []).length) (by have := h.p1 j; omega)
 have h3 := dels_len (b := s.1) (P := s.2.2.2.getD j []) (n := (s.2.2.2.getD j []).length) (fun i hi => (h.d1 j i hj hi).2)
 have h4 := h.p1 j
 unfold grp
 simp only [List.length_append]
 omega
theorem lines_len {s : SegT} (h : EncOk s) (i : Nat) (hi : i ≤ s.2.1.length) : (flat (line s.2.1) i).length ≤ 20010000 := by
 have h1 := flat_len (f := line s.2.1) i (fun j _ => line_len s.2.1 j h.t1)
 have h2 := h.l1
 have h3 : i * 20010 ≤ 1000 * 20010 := Nat.mul_le_mul_right _ zq3
 omega
theorem grps_len {s : SegT} (h : EncOk s) (j : Nat) (hj : j ≤ s.2.2.1.length) : (flat (grp s.1 s.2.2.1 s.2.2.2) j).length ≤ 180360000 := by
 have h1 := flat_len (f := grp s.1 s.2.2.1 s.2.2.2) (m := 9018) j (fun i hi => grp_len h i zq3)
 have h2 := h.k1
 have h3 : j * 9018 ≤ 20000 * 9018 := Nat.mul_le_mul_right _ zq3
 omega
theorem body_ev (s : SegT) (h : EncOk s) : Ev (fun k => spec_l4body.f k s.1 s.2.1 s.2.2.1 s.2.2.2) (body s) := by
 obtain ⟨b, ls, K, Ps⟩ := s
 have hb0 : 0 ≤ b := h.b0
 have hb1 : b ≤ 1000 := h.b1
 have hl1 : ls.length ≤ 1000 := h.l1
 have ht1 : totalB ls ≤ 20000 := h.t1
 have hk1 : K.length ≤ 20000 := h.k1
 have hpk : Ps.length = K.length := h.pk
 have hhl : (head b ls).length ≤ 20 := head_len hb1 hl1
 have rdL : ∀ i : Nat, rd_L1 ls (i : Int) = ls.getD i [] := fun i => rfl
 have rdP : ∀ i : Nat, rd_L3 Ps (i : Int) = Ps.getD i [] := fun i => rfl
 have hll : (flat (line ls) ls.length).length ≤ 20010000 := lines_len h ls.length (Nat.le_refl _)
 have hkl := varint_len10 (n := K.length) zq3
 have L2 : ∀ (j : Nat) (o : List Int), j < K.length → o.length ≤ 300000000 → Ev (fun k => spec_l4body.l1 k (o ++ dels b (Ps.getD j []) (Ps.getD j []).length) ((j + 1 : Nat) : Int) b ls K Ps) (body (b, ls, K, Ps)) →
   ∀ (d i : Nat), i + d = (Ps.getD j []).length → Ev (fun k => spec_l4body.l2 k (o ++ dels b (Ps.getD j []) i) (j : Int) (i : Int) b ls K Ps) (body (b, ls, K, Ps)) := by
  intro j o hj ho hnext d
  have hp1 : (Ps.getD j []).length ≤ 1000 := h.p1 j
  have hd1 : ∀ i, i < (Ps.getD j []).length → 0 ≤ del b (Ps.getD j []) i ∧ del b (Ps.getD j []) i ≤ 1000 := fun i hi => h.d1 j i hj hi
  have hrd := rdP j
  generalize Ps.getD j [] = P at hnext hp1 hd1 hrd ⊢
  induction d with
  | zero =>
   intro i hd
   obtain rfl : i = P.length := by omega
   refine Ev.step (fun k => ?_) hnext
   simp only [spec_l4body.l2]
   rw [if_pos zq3, if_pos zq3, hrd, if_neg zq3, wrap_succ j zq3]
  | succ d ih =>
   intro i hd
   have hr := ih (i + 1) zq3
   have hsucc : dels b P (i + 1) = dels b P i ++ varint (del b P i).toNat := flat_succ _ _
   obtain ⟨d0, d1⟩ := hd1 i zq3
   have hv := varint_ev (del b P i).toNat zq3
   rw [Int.toNat_of_nonneg d0] at hv
   have hvl := varint_len10 (n := (del b P i).toNat) zq3
   have hdl := dels_len (b := b) (P := P) (n := i) (fun q hq => (hd1 q zq3).2)
   have hcond : (o ++ dels b P i).length + (varint (del b P i).toNat).length < 140737488355328 := by rw [List.length_append]; omega
   rw [hsucc, ← List.append_assoc] at hr
   by_cases h0 : i = 0
   ·subst h0
    have hdel : del b P 0 = P.getD 0 0 - b := rfl
    rw [hdel] at hv d0 d1 hcond hr
    refine Ev.step (f := fun k => (spec_l4varint.f k (P.getD 0 0 - b)).bind fun t397 => (if (o ++ dels b P 0).length + t397.length < 140737488355328 then (spec_l4body.l2 k ((o ++ dels b P 0) ++ t397) (j : Int) ((0 + 1 : Nat) : Int) b ls K Ps) else none)) (fun k => ?_) (Ev.bind hv (Ev.congr (fun k => if_pos hcond) hr))
    simp only [spec_l4body.l2]
    rw [if_pos zq3, if_pos zq3, hrd, if_pos zq3, if_neg zq3, if_pos zq3, rd_at, wrap_in zq3, wrap_succ 0 zq3]
   ·have hdel : del b P i = P.getD i 0 - P.getD (i - 1) 0 := if_neg h0
    rw [hdel] at hv d0 d1 hcond hr
    have hw : wrap64 ((i : Int) - 1) = ((i - 1 : Nat) : Int) := by rw [wrap_in zq3]; omega
    refine Ev.step (f := fun k => (spec_l4varint.f k (P.getD i 0 - P.getD (i - 1) 0)).bind fun t389 => (if (o ++ dels b P i).length + t389.length < 140737488355328 then (spec_l4body.l2 k ((o ++ dels b P i) ++ t389) (j : Int) ((i + 1 : Nat) : Int) b ls K Ps) else none)) (fun k => ?_) (Ev.bind hv (Ev.congr (fun k => if_pos hcond) hr))
    simp only [spec_l4body.l2]
    rw [if_pos zq3, if_pos zq3, hrd, if_pos zq3, if_pos zq3, hw, if_pos zq3, if_pos zq3, if_pos zq3, rd_at, rd_at, wrap_in zq3, wrap_succ i zq3]
 have L1 : ∀ (d j : Nat), j + d = K.length → Ev (fun k => spec_l4body.l1 k (head b ls ++ flat (line ls) ls.length ++ varint K.length ++ flat (grp b K Ps) j) (j : Int) b ls K Ps) (body (b, ls, K, Ps)) := by
  intro d
  induction d with
  | zero =>
   intro j hd
   obtain rfl : j = K.length := by omega
   refine Ev.step (f := fun _ => some (body (b, ls, K, Ps))) (fun k => ?_) (Ev.now _)
   simp only [spec_l4body.l1]
   rw [if_neg zq3]
   rfl
  | succ d ih =>
   intro j hd
   have hj : j < K.length := by omega
   obtain ⟨g0, g1⟩ := h.g1 j hj
   have g0 : 0 ≤ gap K j := g0
   have g1 : gap K j ≤ 16777216 := g1
   have hgl : (flat (grp b K Ps) j).length ≤ 180360000 := grps_len h j (by show j ≤ K.length; omega)
   have hp1 : (Ps.getD j []).length ≤ 1000 := h.p1 j
   have hv1 := varint_ev (gap K j).toNat zq3
   rw [Int.toNat_of_nonneg g0] at hv1
   have hv2 := varint_ev (Ps.getD j []).length zq3
   have hl1' := varint_len10 (n := (gap K j).toNat) zq3
   have hl2' := varint_len10 (n := (Ps.getD j []).length) zq3
   generalize hO : head b ls ++ flat (line ls) ls.length ++ varint K.length ++ flat (grp b K Ps) j = O
   have hOl : O.length ≤ 250000000 := by rw [← hO]; simp only [List.length_append]; omega
   have hnext := ih (j + 1) zq3
   rw [flat_succ, ← List.append_assoc, hO] at hnext
   have hg : grp b K Ps j = varint (gap K j).toNat ++ varint (Ps.getD j []).length ++ dels b (Ps.getD j []) (Ps.getD j []).length := rfl
   rw [hg] at hnext
   have hin := L2 j (O ++ varint (gap K j).toNat ++ varint (Ps.getD j []).length) hj (by simp only [List.length_append]; omega) (by
    have e1 : O ++ varint (gap K j).toNat ++ varint (Ps.getD j []).length ++ dels b (Ps.getD j []) (Ps.getD j []).length = O ++ (varint (gap K j).toNat ++ varint (Ps.getD j []).length ++ dels b (Ps.getD j []) (Ps.getD j []).length) := by simp only [List.append_assoc]
    rw [e1]
    exact hnext) (Ps.getD j []).length 0 zq3
   have hd0 : dels b (Ps.getD j []) 0 = [] := rfl
   rw [hd0, List.append_nil] at hin
   have J2 : Ev (fun k => spec_l4body.j2 k O (j : Int) (gap K j) b ls K Ps) (body (b, ls, K, Ps)) := by
    refine Ev.step (f := fun k => (spec_l4varint.f k (gap K j)).bind fun t371 => (if O.length + t371.length < 140737488355328 then ((spec_l4varint.f k ((Ps.getD j []).length : Int)).bind fun t378 => (if (O ++ t371).length + t378.length < 140737488355328 then (spec_l4body.l2 k ((O ++ t371) ++ t378) (j : Int) ((0 : Nat) : Int) b ls K Ps) else none)) else none)) (fun k => ?_) (Ev.bind hv1 (Ev.congr (fun k => if_pos zq3) (Ev.bind hv2 (Ev.congr (fun k => if_pos zq47) hin))))
    simp only [spec_l4body.j2, Option.bind_some]
    simp only [show (0 : Int) ≤ (j : Int) from by omega, show (j : Int) < (Ps.length : Int) from by omega, if_true, rdP]
    rfl
   by_cases h0 : j = 0
   ·subst h0
    refine Ev.step (fun k => ?_) J2
    simp only [spec_l4body.l1]
    rw [if_pos zq3, if_pos zq3, if_neg zq3, rd_at]
    rfl
   ·have hgap : gap K j = K.getD j 0 - K.getD (j - 1) 0 := if_neg h0
    have hw : wrap64 ((j : Int) - 1) = ((j - 1 : Nat) : Int) := by rw [wrap_in zq3]; omega
    refine Ev.step (fun k => ?_) J2
    simp only [spec_l4body.l1]
    rw [if_pos zq3, if_pos zq3, if_pos zq3, hw, if_pos zq3, if_pos zq3, rd_at, rd_at, ← hgap, wrap_in zq3]
 have L0 : ∀ (d i : Nat), i + d = ls.length → Ev (fun k => spec_l4body.l0 k (head b ls ++ flat (line ls) i) (i : Int) b ls K Ps) (body (b, ls, K, Ps)) := by
  intro d
  induction d with
  | zero =>
   intro i hd
   obtain rfl : i = ls.length := by omega
   have h1 := L1 K.length 0 zq3
   have hf0 : flat (grp b K Ps) 0 = [] := rfl
   rw [hf0, List.append_nil] at h1
   refine Ev.step (f := fun k => (spec_l4varint.f k (K.length : Int)).bind fun t363 => (if (head b ls ++ flat (line ls) ls.length).length + t363.length < 140737488355328 then (spec_l4body.l1 k ((head b ls ++ flat (line ls) ls.length) ++ t363) ((0 : Nat) : Int) b ls K Ps) else none)) (fun k => ?_) (Ev.bind (varint_ev K.length zq3) (Ev.congr (fun k => if_pos zq47) h1))
   simp only [spec_l4body.l0]
   rw [if_neg zq3]
   rfl
  | succ d ih =>
   intro i hd
   have hfl : (flat (line ls) i).length ≤ 20010000 := lines_len h i (by show i ≤ ls.length; omega)
   have hil := getD_len ls i
   have hvl := varint_len10 (n := (ls.getD i []).length) zq3
   have hr := ih (i + 1) zq3
   have hline : line ls i = varint (ls.getD i []).length ++ ls.getD i [] := rfl
   rw [flat_succ, ← List.append_assoc, hline, ← List.append_assoc] at hr
   generalize hO : head b ls ++ flat (line ls) i = O at hr ⊢
   have hOl : O.length ≤ 20010020 := by rw [← hO, List.length_append]; omega
   refine Ev.step (f := fun k => (spec_l4varint.f k ((ls.getD i []).length : Int)).bind fun t353 => (if O.length + t353.length < 140737488355328 then (if (O ++ t353).length + (ls.getD i []).length < 140737488355328 then (spec_l4body.l0 k ((O ++ t353) ++ ls.getD i []) ((i + 1 : Nat) : Int) b ls K Ps) else none) else none)) (fun k => ?_) (Ev.bind (varint_ev (ls.getD i []).length zq3) (Ev.congr (fun k => if_pos zq3) (Ev.congr (fun k => if_pos zq47) hr)))
   simp only [spec_l4body.l0, Option.bind_some]
   rw [if_pos zq3, if_pos zq3, rdL, wrap_succ i zq3]
 have h0 := L0 ls.length 0 zq3
 have hf0 : flat (line ls) 0 = [] := rfl
 rw [hf0, List.append_nil] at h0
 have hv1 := varint_ev b.toNat zq3
 rw [Int.toNat_of_nonneg hb0] at hv1
 have hl1' := varint_len10 (n := b.toNat) zq3
 have hl2' := varint_len10 (n := ls.length) zq3
 show Ev (fun k => spec_l4body.f k b ls K Ps) _
 refine Ev.congr (f := fun k => (spec_l4varint.f k b).bind fun t340 => (if [(84 : Int), 71].length + t340.length < 140737488355328 then ((spec_l4varint.f k (ls.length : Int)).bind fun t346 => (if ([(84 : Int), 71] ++ t340).length + t346.length < 140737488355328 then (spec_l4body.l0 k (([84, 71] ++ t340) ++ t346) ((0 : Nat) : Int) b ls K Ps) else none)) else none)) (fun k => ?_) (Ev.bind hv1 (Ev.congr (fun k => if_pos (by simp only [List.length_cons, List.length_nil]; omega)) (Ev.bind (varint_ev ls.length zq3) (Ev.congr (fun k => if_pos (by simp only [List.length_append, List.length_cons, List.length_nil]; omega)) h0))))
 simp only [spec_l4body.f, Option.bind_some]
 rfl
end Go.Proofs.Ytmgmdnmfalepkaa.PEnc

namespace Go.Proofs.Ytmgmdnmfalepkaa.PEnc
open Go.RowKit Go.Proofs.YtmgmdnmfalepkaaW.PrintWords Go.Proofs.Ytmgmdnmfalepkaa.PKit Go.Proofs.Ytmgmdnmfalepkaa.POrd Go.Proofs.Ytmgmdnmfalepkaa.PTri Go.Proofs.Ytmgmdnmfalepkaa.PSeg Go.Proofs.Ytmgmdnmfalepkaa.L Go.Proofs.Ytmgmdnmfalepkaa.HelpBB
set_option linter.unusedVariables false
theorem xor_i64 (a b : Nat) (ha : a < 4294967296) (hb : b < 4294967296) : Go.bits .xor .i64 (a : Int) (b : Int) = ((a ^^^ b : Nat) : Int) := by
 have hx : a ^^^ b < 2 ^ 32 := Nat.xor_lt_two_pow zq3 zq3
 have h1 : (BitVec.ofInt 64 (a : Int)).toNat = a := by
  rw [BitVec.ofInt_natCast, BitVec.toNat_ofNat]; exact Nat.mod_eq_of_lt zq3
 have h2 : (BitVec.ofInt 64 (b : Int)).toNat = b := by
  rw [BitVec.ofInt_natCast, BitVec.toNat_ofNat]; exact Nat.mod_eq_of_lt zq3
 show IntKind.i64.wrap ((BitVec.ofInt 64 (a : Int) ^^^ BitVec.ofInt 64 (b : Int)).toNat : Int) = _
 rw [BitVec.toNat_xor, h1, h2, IntKind.wrap_i64]
 omega
theorem xor_lt (a b : Nat) (ha : a < 4294967296) (hb : b < 4294967296) : a ^^^ b < 4294967296 := by
 have hx : a ^^^ b < 2 ^ 32 := Nat.xor_lt_two_pow zq3 zq3
 omega
def mix (h : Nat) (c : Int) : Nat := ((h ^^^ c.toNat) * 16777619) % 4294967296
def sumFrom (z : Nat) (l : List Int) : Nat := l.foldl mix z
theorem sumFrom_snoc (z : Nat) (l : List Int) (c : Int) : sumFrom z (l ++ [c]) = mix (sumFrom z l) c := by
 unfold sumFrom
 rw [List.foldl_append, List.foldl_cons, List.foldl_nil]
def sum (l : List Int) : Nat := sumFrom 2166136261 l
theorem sum_snoc (l : List Int) (c : Int) : sum (l ++ [c]) = mix (sum l) c := sumFrom_snoc _ l c
theorem sum_nil : sum [] = 2166136261 := rfl
theorem mix_lt (h : Nat) (c : Int) : mix h c < 4294967296 := Nat.mod_lt _ zq13
theorem sum_lt (l : List Int) : sum l < 4294967296 := by
 rcases List.eq_nil_or_concat l with rfl | ⟨r, c, rfl⟩
 ·rw [sum_nil]; decide
 ·rw [List.concat_eq_append, sum_snoc]
  exact mix_lt _ _
def four (h : Nat) : List Int := [((h / 16777216 : Nat) : Int), ((h / 65536 % 256 : Nat) : Int), ((h / 256 % 256 : Nat) : Int), ((h % 256 : Nat) : Int)]
def code (s : SegT) : List Int := body s ++ four (sum (body s))
theorem four_bytes {h : Nat} (hh : h < 4294967296) : ∀ x ∈ four h, 0 ≤ x ∧ x ≤ 255 := by
 intro x hx
 simp only [four, List.mem_cons, List.not_mem_nil, or_false] at hx
 rcases hx with rfl | rfl | rfl | rfl <;> omega
theorem sum_ev (l : List Int) (hb : ∀ x ∈ l, 0 ≤ x ∧ x ≤ 255) (hl : l.length ≤ 1099511627776) : Ev (fun k => spec_l4checksum.f k l) (four (sum l)) := by
 have key : ∀ (d i : Nat), i + d = l.length → Ev (fun k => spec_l4checksum.l0 k l (sum (l.take i) : Int) (i : Int)) (four (sum l)) := by
  intro d
  induction d with
  | zero =>
   intro i hd
   have e : l.take i = l := List.take_of_length_le zq3
   rw [e]
   have hs := sum_lt l
   generalize sum l = h at hs
   refine Ev.step (f := fun _ => some (four h)) (fun k => ?_) (Ev.now _)
   simp only [spec_l4checksum.l0]
   rw [if_neg zq3]
   have t1 : Int.tdiv (h : Int) 16777216 = ((h / 16777216 : Nat) : Int) := rfl
   have t2 : Int.tdiv (h : Int) 65536 = ((h / 65536 : Nat) : Int) := rfl
   have t3 : Int.tdiv (h : Int) 256 = ((h / 256 : Nat) : Int) := rfl
   have t4 : Int.tmod (h : Int) 256 = ((h % 256 : Nat) : Int) := rfl
   have t5 : Int.tmod ((h / 65536 : Nat) : Int) 256 = ((h / 65536 % 256 : Nat) : Int) := rfl
   have t6 : Int.tmod ((h / 256 : Nat) : Int) 256 = ((h / 256 % 256 : Nat) : Int) := rfl
   rw [t1, t2, t3, t4, wrap_in (x := ((h / 16777216 : Nat) : Int)) zq3, wrap_in (x := ((h / 65536 : Nat) : Int)) zq3, wrap_in (x := ((h / 256 : Nat) : Int)) zq3, t5, t6]
   unfold four
   congr 2
   ·omega
   ·congr 1
    ·omega
    ·congr 1
     ·omega
     ·congr 1
      omega
  | succ d ih =>
   intro i hd
   have hi : i < l.length := by omega
   have ht : l.take (i + 1) = l.take i ++ [l.getD i 0] := by
    rw [List.take_succ_eq_append_getElem hi]
    simp [List.getD, List.getElem?_eq_getElem hi]
   have hr := ih (i + 1) zq3
   rw [ht, sum_snoc] at hr
   obtain ⟨c0, c1⟩ := hb (l.getD i 0) (by
    have e : l.getD i 0 = l[i] := by simp [List.getD, List.getElem?_eq_getElem hi]
    rw [e]
    exact List.getElem_mem hi)
   have hs := sum_lt (l.take i)
   generalize sum (l.take i) = h at hs hr ⊢
   have hx := xor_lt h (l.getD i 0).toNat hs zq3
   refine Ev.step (fun k => ?_) hr
   simp only [spec_l4checksum.l0]
   rw [if_pos zq3, if_pos zq3, rd_at, wrap_in (x := l.getD i 0) zq3]
   have e1 : Go.bits .xor .i64 (h : Int) (l.getD i 0) = ((h ^^^ (l.getD i 0).toNat : Nat) : Int) := by
    have := xor_i64 h (l.getD i 0).toNat hs zq3
    rwa [Int.toNat_of_nonneg c0] at this
   rw [e1, wrap_in zq3, wrap_succ i zq3]
   have e2 : Int.tmod (((h ^^^ (l.getD i 0).toNat : Nat) : Int) * 16777619) 4294967296 = ((mix h (l.getD i 0) : Nat) : Int) := by
    have : ((h ^^^ (l.getD i 0).toNat : Nat) : Int) * 16777619 = (((h ^^^ (l.getD i 0).toNat) * 16777619 : Nat) : Int) := by omega
    rw [this]
    rfl
   rw [e2]
 have h := key l.length 0 zq3
 exact Ev.congr (fun k => by simp only [spec_l4checksum.f]; rfl) h
theorem flat_bytes {f : Nat → List Int} : ∀ n, (∀ i, i < n → ∀ x ∈ f i, 0 ≤ x ∧ x ≤ 255) → ∀ x ∈ flat f n, 0 ≤ x ∧ x ≤ 255 := by
 intro n h x hx
 obtain ⟨i, hi, hx⟩ := List.mem_flatMap.1 hx
 exact h i (List.mem_range.1 hi) x hx
theorem body_bytes (s : SegT) (hb : Bytes s.2.1) : ∀ x ∈ body s, 0 ≤ x ∧ x ≤ 255 := by
 intro x hx
 unfold body head at hx
 simp only [List.mem_append] at hx
 rcases hx with ((((hx | hx) | hx) | hx) | hx) | hx
 ·simp only [List.mem_cons, List.not_mem_nil, or_false] at hx
  rcases hx with rfl | rfl <;> omega
 ·exact varint_bytes _ x hx
 ·exact varint_bytes _ x hx
 ·refine flat_bytes _ (fun i hi y hy => ?_) x hx
  unfold line at hy
  rcases List.mem_append.1 hy with hy | hy
  ·exact varint_bytes _ y hy
  ·exact getD_bytes hb i y hy
 ·exact varint_bytes _ x hx
 ·refine flat_bytes _ (fun j hj y hy => ?_) x hx
  unfold grp at hy
  simp only [List.mem_append] at hy
  rcases hy with (hy | hy) | hy
  ·exact varint_bytes _ y hy
  ·exact varint_bytes _ y hy
  ·exact flat_bytes _ (fun i hi z hz => varint_bytes _ z hz) y hy
theorem body_len {s : SegT} (h : EncOk s) : (body s).length ≤ 250000000 := by
 have h1 := head_len h.b1 h.l1
 have h2 := lines_len h s.2.1.length (Nat.le_refl _)
 have h3 := varint_len10 (n := s.2.2.1.length) (by have := h.k1; omega)
 have h4 := grps_len h s.2.2.1.length (Nat.le_refl _)
 unfold body
 simp only [List.length_append]
 omega
theorem code_bytes {s : SegT} (hb : Bytes s.2.1) : ∀ x ∈ code s, 0 ≤ x ∧ x ≤ 255 := by
 intro x hx
 rcases List.mem_append.1 hx with hx | hx
 ·exact body_bytes s hb x hx
 ·exact four_bytes (sum_lt _) x hx
theorem encode_ev (s : SegT) (h : EncOk s) (hb : Bytes s.2.1) : Ev (fun k => spec_l4encode.f k s.1 s.2.1 s.2.2.1 s.2.2.2) (code s) := by
 have hl := body_len h
 refine Ev.congr (fun k => by simp only [spec_l4encode.f]) (Ev.bind (f := fun k t408 => (spec_l4checksum.f k t408).bind fun t411 => (if t408.length + t411.length < 140737488355328 then some (t408 ++ t411) else none)) (body_ev s h) (Ev.bind (sum_ev (body s) (body_bytes s hb) zq3) (Ev.congr (f := fun _ => some (code s)) (fun k => if_pos (by simp only [four, List.length_cons, List.length_nil]; omega)) (Ev.now _))))
end Go.Proofs.Ytmgmdnmfalepkaa.PEnc

namespace Go.Proofs.Ytmgmdnmfalepkaa.L
open Go.RowKit Go.Proofs.YtmgmdnmfalepkaaW.PrintWords Go.Proofs.YtmgmdnmfalepkaaW.PrintLast Go.Proofs.YtmgmdnmfalepkaaW.PrintMore
attribute [local go_sem] max2_int min2_int max_two min_two max_three min_three max_four min_four
set_option linter.unusedVariables false
set_option linter.unusedSimpArgs false
def laws_toIntS.l0 : Nat → List Int → List Int → Int → Option (List Int)
 | 0, _, _, _ => none
 | k + 1, x0, x3, x4 => if x4 < (x0.length : Int) then (if 0 ≤ x4 then (if x4 < (x3.length : Int) then (laws_toIntS.l0 k x0 (x3.set (x4 : Int).toNat (rd x0 x4)) (wrap64 (x4 + 1))) else (none)) else (none)) else (some x3)
def laws_toIntS.f (k : Nat) (l0 : List Int) : Option (List Int) := if 0 ≤ (l0.length : Int) then (if ((l0.length : Int) : Int).toNat ≤ 35184372088832 then (laws_toIntS.l0 k l0 (List.replicate ((l0.length : Int) : Int).toNat 0) 0) else (none)) else (none)
theorem laws_toIntS.mono_l : ∀ k, (∀ y0 y1 y2, LeO (laws_toIntS.l0 k y0 y1 y2) (laws_toIntS.l0 (k + 1) y0 y1 y2))
 | 0 => fun _ _ _ r h => by simp [laws_toIntS.l0] at h
 | k + 1 => by
  have ih0 := laws_toIntS.mono_l k
  ·intro y0 y1 y2
   unfold laws_toIntS.l0
   repeat' first
   | (with_reducible exact ih0 _ _ _)
   | (with_reducible exact LeO.refl _)
   | (with_reducible exact LeO.none _)
   | (with_reducible refine LeO.ite ?_ ?_)
   | (with_reducible refine LeO.bind ?_ (fun _ => ?_))
   | exact ih0 _ _ _
   | exact LeO.none _
   | refine LeO.ite ?_ ?_
   | refine LeO.bind ?_ (fun _ => ?_)
theorem laws_toIntS.mono : ∀ a0 k, LeO (laws_toIntS.f k a0) (laws_toIntS.f (k + 1) a0) := by
 intro a0 k
 have ih0 := laws_toIntS.mono_l k
 unfold laws_toIntS.f
 repeat' first
   | (with_reducible exact ih0 _ _ _)
   | (with_reducible exact LeO.refl _)
   | (with_reducible exact LeO.none _)
   | (with_reducible refine LeO.ite ?_ ?_)
   | (with_reducible refine LeO.bind ?_ (fun _ => ?_))
   | exact ih0 _ _ _
   | exact LeO.none _
   | refine LeO.ite ?_ ?_
   | refine LeO.bind ?_ (fun _ => ?_)
def laws_eqIntS.l0 : Nat → List Int → List Int → Int → Option (Bool)
 | 0, _, _, _ => none
 | k + 1, x0, x1, x5 => if x5 < (x0.length : Int) then (if 0 ≤ x5 then (if x5 < (x1.length : Int) then (if (rd x0 x5) = (rd x1 x5) then (laws_eqIntS.l0 k x0 x1 (wrap64 (x5 + 1))) else (some false)) else (none)) else (none)) else (some true)
def laws_eqIntS.f (k : Nat) (l0 : List Int) (l1 : List Int) : Option (Bool) := if (l0.length : Int) = (l1.length : Int) then (laws_eqIntS.l0 k l0 l1 0) else (some false)
theorem laws_eqIntS.mono_l : ∀ k, (∀ y0 y1 y2, LeO (laws_eqIntS.l0 k y0 y1 y2) (laws_eqIntS.l0 (k + 1) y0 y1 y2))
 | 0 => fun _ _ _ r h => by simp [laws_eqIntS.l0] at h
 | k + 1 => by
  have ih0 := laws_eqIntS.mono_l k
  ·intro y0 y1 y2
   unfold laws_eqIntS.l0
   repeat' first
   | (with_reducible exact ih0 _ _ _)
   | (with_reducible exact LeO.refl _)
   | (with_reducible exact LeO.none _)
   | (with_reducible refine LeO.ite ?_ ?_)
   | (with_reducible refine LeO.bind ?_ (fun _ => ?_))
   | exact ih0 _ _ _
   | exact LeO.none _
   | refine LeO.ite ?_ ?_
   | refine LeO.bind ?_ (fun _ => ?_)
theorem laws_eqIntS.mono : ∀ a0 a1 k, LeO (laws_eqIntS.f k a0 a1) (laws_eqIntS.f (k + 1) a0 a1) := by
 intro a0 a1 k
 have ih0 := laws_eqIntS.mono_l k
 unfold laws_eqIntS.f
 repeat' first
   | (with_reducible exact ih0 _ _ _)
   | (with_reducible exact LeO.refl _)
   | (with_reducible exact LeO.none _)
   | (with_reducible refine LeO.ite ?_ ?_)
   | (with_reducible refine LeO.bind ?_ (fun _ => ?_))
   | exact ih0 _ _ _
   | exact LeO.none _
   | refine LeO.ite ?_ ?_
   | refine LeO.bind ?_ (fun _ => ?_)
def laws_heldIntS.l0 : Nat → List Int → Int → Int → Option (Int)
 | 0, _, _, _ => none
 | k + 1, x0, x1, x5 => if x5 < (x0.length : Int) then (if 0 ≤ x5 then (if (rd x0 x5) = x1 then (laws_heldIntS.l0 k x0 (wrap64 (x1 + 1)) (wrap64 (x5 + 1))) else (some (-1))) else (none)) else (some x1)
def laws_heldIntS.f (k : Nat) (l0 : List Int) (a1 : Int) : Option (Int) := laws_heldIntS.l0 k l0 a1 0
theorem laws_heldIntS.mono_l : ∀ k, (∀ y0 y1 y2, LeO (laws_heldIntS.l0 k y0 y1 y2) (laws_heldIntS.l0 (k + 1) y0 y1 y2))
 | 0 => fun _ _ _ r h => by simp [laws_heldIntS.l0] at h
 | k + 1 => by
  have ih0 := laws_heldIntS.mono_l k
  ·intro y0 y1 y2
   unfold laws_heldIntS.l0
   repeat' first
   | (with_reducible exact ih0 _ _ _)
   | (with_reducible exact LeO.refl _)
   | (with_reducible exact LeO.none _)
   | (with_reducible refine LeO.ite ?_ ?_)
   | (with_reducible refine LeO.bind ?_ (fun _ => ?_))
   | exact ih0 _ _ _
   | exact LeO.none _
   | refine LeO.ite ?_ ?_
   | refine LeO.bind ?_ (fun _ => ?_)
theorem laws_heldIntS.mono : ∀ a0 a1 k, LeO (laws_heldIntS.f k a0 a1) (laws_heldIntS.f (k + 1) a0 a1) := by
 intro a0 a1 k
 have ih0 := laws_heldIntS.mono_l k
 unfold laws_heldIntS.f
 repeat' first
   | (with_reducible exact ih0 _ _ _)
   | (with_reducible exact LeO.refl _)
   | (with_reducible exact LeO.none _)
   | (with_reducible refine LeO.ite ?_ ?_)
   | (with_reducible refine LeO.bind ?_ (fun _ => ?_))
   | exact ih0 _ _ _
   | exact LeO.none _
   | refine LeO.ite ?_ ?_
   | refine LeO.bind ?_ (fun _ => ?_)
def laws_markIntS.l0 : Nat → List Int → Int → Int → Option (Int × List Int)
 | 0, _, _, _ => none
 | k + 1, x0, x1, x5 => if x5 < (x0.length : Int) then (if 0 ≤ x5 then (laws_markIntS.l0 k (x0.set (x5 : Int).toNat x1) (wrap64 (x1 + 1)) (wrap64 (x5 + 1))) else (none)) else (some (x1, x0))
def laws_markIntS.f (k : Nat) (l0 : List Int) (a1 : Int) : Option (Int × List Int) := laws_markIntS.l0 k l0 a1 0
theorem laws_markIntS.mono_l : ∀ k, (∀ y0 y1 y2, LeO (laws_markIntS.l0 k y0 y1 y2) (laws_markIntS.l0 (k + 1) y0 y1 y2))
 | 0 => fun _ _ _ r h => by simp [laws_markIntS.l0] at h
 | k + 1 => by
  have ih0 := laws_markIntS.mono_l k
  ·intro y0 y1 y2
   unfold laws_markIntS.l0
   repeat' first
   | (with_reducible exact ih0 _ _ _)
   | (with_reducible exact LeO.refl _)
   | (with_reducible exact LeO.none _)
   | (with_reducible refine LeO.ite ?_ ?_)
   | (with_reducible refine LeO.bind ?_ (fun _ => ?_))
   | exact ih0 _ _ _
   | exact LeO.none _
   | refine LeO.ite ?_ ?_
   | refine LeO.bind ?_ (fun _ => ?_)
theorem laws_markIntS.mono : ∀ a0 a1 k, LeO (laws_markIntS.f k a0 a1) (laws_markIntS.f (k + 1) a0 a1) := by
 intro a0 a1 k
 have ih0 := laws_markIntS.mono_l k
 unfold laws_markIntS.f
 repeat' first
   | (with_reducible exact ih0 _ _ _)
   | (with_reducible exact LeO.refl _)
   | (with_reducible exact LeO.none _)
   | (with_reducible refine LeO.ite ?_ ?_)
   | (with_reducible refine LeO.bind ?_ (fun _ => ?_))
   | exact ih0 _ _ _
   | exact LeO.none _
   | refine LeO.ite ?_ ?_
   | refine LeO.bind ?_ (fun _ => ?_)
def laws_toIntSS.l0 : Nat → List (List Int) → List (List Int) → Int → Option ((List (List Int)))
 | 0, _, _, _ => none
 | k + 1, x0, x3, x4 => if x4 < (x0.length : Int) then (if 0 ≤ x4 then ((laws_toIntS.f k (rd_L3 x0 x4)).bind fun t136 => (if x4 < (x3.length : Int) then (laws_toIntSS.l0 k x0 (x3.set (x4 : Int).toNat t136) (wrap64 (x4 + 1))) else (none))) else (none)) else (some x3)
def laws_toIntSS.f (k : Nat) (l0 : List (List Int)) : Option ((List (List Int))) := if 0 ≤ (l0.length : Int) then (if ((l0.length : Int) : Int).toNat ≤ 11728124029610 then (laws_toIntSS.l0 k l0 (List.replicate ((l0.length : Int) : Int).toNat []) 0) else (none)) else (none)
theorem laws_toIntSS.mono_l : ∀ k, (∀ y0 y1 y2, LeO (laws_toIntSS.l0 k y0 y1 y2) (laws_toIntSS.l0 (k + 1) y0 y1 y2))
 | 0 => fun _ _ _ r h => by simp [laws_toIntSS.l0] at h
 | k + 1 => by
  have ih0 := laws_toIntSS.mono_l k
  ·intro y0 y1 y2
   unfold laws_toIntSS.l0
   repeat' first
   | (with_reducible exact ih0 _ _ _)
   | (with_reducible exact laws_toIntS.mono _ _)
   | (with_reducible exact LeO.refl _)
   | (with_reducible exact LeO.none _)
   | (with_reducible refine LeO.ite ?_ ?_)
   | (with_reducible refine LeO.bind ?_ (fun _ => ?_))
   | exact ih0 _ _ _
   | exact laws_toIntS.mono _ _
   | exact LeO.none _
   | refine LeO.ite ?_ ?_
   | refine LeO.bind ?_ (fun _ => ?_)
theorem laws_toIntSS.mono : ∀ a0 k, LeO (laws_toIntSS.f k a0) (laws_toIntSS.f (k + 1) a0) := by
 intro a0 k
 have ih0 := laws_toIntSS.mono_l k
 unfold laws_toIntSS.f
 repeat' first
   | (with_reducible exact ih0 _ _ _)
   | (with_reducible exact laws_toIntS.mono _ _)
   | (with_reducible exact LeO.refl _)
   | (with_reducible exact LeO.none _)
   | (with_reducible refine LeO.ite ?_ ?_)
   | (with_reducible refine LeO.bind ?_ (fun _ => ?_))
   | exact ih0 _ _ _
   | exact laws_toIntS.mono _ _
   | exact LeO.none _
   | refine LeO.ite ?_ ?_
   | refine LeO.bind ?_ (fun _ => ?_)
def laws_eqIntSS.l0 : Nat → List (List Int) → List (List Int) → Int → Option (Bool)
 | 0, _, _, _ => none
 | k + 1, x0, x1, x5 => if x5 < (x0.length : Int) then (if 0 ≤ x5 then (if x5 < (x1.length : Int) then ((laws_eqIntS.f k (rd_L3 x0 x5) (rd_L3 x1 x5)).bind fun t142 => (if t142 = true then (laws_eqIntSS.l0 k x0 x1 (wrap64 (x5 + 1))) else (some false))) else (none)) else (none)) else (some true)
def laws_eqIntSS.f (k : Nat) (l0 : List (List Int)) (l1 : List (List Int)) : Option (Bool) := if (l0.length : Int) = (l1.length : Int) then (laws_eqIntSS.l0 k l0 l1 0) else (some false)
theorem laws_eqIntSS.mono_l : ∀ k, (∀ y0 y1 y2, LeO (laws_eqIntSS.l0 k y0 y1 y2) (laws_eqIntSS.l0 (k + 1) y0 y1 y2))
 | 0 => fun _ _ _ r h => by simp [laws_eqIntSS.l0] at h
 | k + 1 => by
  have ih0 := laws_eqIntSS.mono_l k
  ·intro y0 y1 y2
   unfold laws_eqIntSS.l0
   repeat' first
   | (with_reducible exact ih0 _ _ _)
   | (with_reducible exact laws_eqIntS.mono _ _ _)
   | (with_reducible exact LeO.refl _)
   | (with_reducible exact LeO.none _)
   | (with_reducible refine LeO.ite ?_ ?_)
   | (with_reducible refine LeO.bind ?_ (fun _ => ?_))
   | exact ih0 _ _ _
   | exact laws_eqIntS.mono _ _ _
   | exact LeO.none _
   | refine LeO.ite ?_ ?_
   | refine LeO.bind ?_ (fun _ => ?_)
theorem laws_eqIntSS.mono : ∀ a0 a1 k, LeO (laws_eqIntSS.f k a0 a1) (laws_eqIntSS.f (k + 1) a0 a1) := by
 intro a0 a1 k
 have ih0 := laws_eqIntSS.mono_l k
 unfold laws_eqIntSS.f
 repeat' first
   | (with_reducible exact ih0 _ _ _)
   | (with_reducible exact laws_eqIntS.mono _ _ _)
   | (with_reducible exact LeO.refl _)
   | (with_reducible exact LeO.none _)
   | (with_reducible refine LeO.ite ?_ ?_)
   | (with_reducible refine LeO.bind ?_ (fun _ => ?_))
   | exact ih0 _ _ _
   | exact laws_eqIntS.mono _ _ _
   | exact LeO.none _
   | refine LeO.ite ?_ ?_
   | refine LeO.bind ?_ (fun _ => ?_)
def laws_heldIntSS.l0 : Nat → List (List Int) → Int → Int → Option (Int)
 | 0, _, _, _ => none
 | k + 1, x0, x1, x5 => if x5 < (x0.length : Int) then (if 0 ≤ x5 then ((laws_heldIntS.f k (rd_L3 x0 x5) x1).bind fun t144 => (if t144 < 0 then (some (-1)) else (laws_heldIntSS.l0 k x0 t144 (wrap64 (x5 + 1))))) else (none)) else (some x1)
def laws_heldIntSS.f (k : Nat) (l0 : List (List Int)) (a1 : Int) : Option (Int) := laws_heldIntSS.l0 k l0 a1 0
theorem laws_heldIntSS.mono_l : ∀ k, (∀ y0 y1 y2, LeO (laws_heldIntSS.l0 k y0 y1 y2) (laws_heldIntSS.l0 (k + 1) y0 y1 y2))
 | 0 => fun _ _ _ r h => by simp [laws_heldIntSS.l0] at h
 | k + 1 => by
  have ih0 := laws_heldIntSS.mono_l k
  ·intro y0 y1 y2
   unfold laws_heldIntSS.l0
   repeat' first
   | (with_reducible exact ih0 _ _ _)
   | (with_reducible exact laws_heldIntS.mono _ _ _)
   | (with_reducible exact LeO.refl _)
   | (with_reducible exact LeO.none _)
   | (with_reducible refine LeO.ite ?_ ?_)
   | (with_reducible refine LeO.bind ?_ (fun _ => ?_))
   | exact ih0 _ _ _
   | exact laws_heldIntS.mono _ _ _
   | exact LeO.none _
   | refine LeO.ite ?_ ?_
   | refine LeO.bind ?_ (fun _ => ?_)
theorem laws_heldIntSS.mono : ∀ a0 a1 k, LeO (laws_heldIntSS.f k a0 a1) (laws_heldIntSS.f (k + 1) a0 a1) := by
 intro a0 a1 k
 have ih0 := laws_heldIntSS.mono_l k
 unfold laws_heldIntSS.f
 repeat' first
   | (with_reducible exact ih0 _ _ _)
   | (with_reducible exact laws_heldIntS.mono _ _ _)
   | (with_reducible exact LeO.refl _)
   | (with_reducible exact LeO.none _)
   | (with_reducible refine LeO.ite ?_ ?_)
   | (with_reducible refine LeO.bind ?_ (fun _ => ?_))
   | exact ih0 _ _ _
   | exact laws_heldIntS.mono _ _ _
   | exact LeO.none _
   | refine LeO.ite ?_ ?_
   | refine LeO.bind ?_ (fun _ => ?_)
def laws_szIntS.f (l0 : List Int) (a1 : Int) : Option (Int) := if (wrap64 (a1 - (l0.length : Int))) < 0 then (some (-1)) else (some (wrap64 (a1 - (l0.length : Int))))
def laws_szIntSS.l0 : Nat → List (List Int) → Int → Int → Option (Int)
 | 0, _, _, _ => none
 | k + 1, x0, x1, x5 => if x5 < (x0.length : Int) then (if 0 ≤ x5 then ((laws_szIntS.f (rd_L3 x0 x5) x1).bind fun t146 => (if t146 < 0 then (some (-1)) else (laws_szIntSS.l0 k x0 t146 (wrap64 (x5 + 1))))) else (none)) else (some x1)
def laws_szIntSS.f (k : Nat) (l0 : List (List Int)) (a1 : Int) : Option (Int) := if (wrap64 (a1 - (l0.length : Int))) < 0 then (some (-1)) else (laws_szIntSS.l0 k l0 (wrap64 (a1 - (l0.length : Int))) 0)
theorem laws_szIntSS.mono_l : ∀ k, (∀ y0 y1 y2, LeO (laws_szIntSS.l0 k y0 y1 y2) (laws_szIntSS.l0 (k + 1) y0 y1 y2))
 | 0 => fun _ _ _ r h => by simp [laws_szIntSS.l0] at h
 | k + 1 => by
  have ih0 := laws_szIntSS.mono_l k
  ·intro y0 y1 y2
   unfold laws_szIntSS.l0
   repeat' first
   | (with_reducible exact ih0 _ _ _)
   | (with_reducible exact LeO.refl _)
   | (with_reducible exact LeO.none _)
   | (with_reducible refine LeO.ite ?_ ?_)
   | (with_reducible refine LeO.bind ?_ (fun _ => ?_))
   | exact ih0 _ _ _
   | exact LeO.none _
   | refine LeO.ite ?_ ?_
   | refine LeO.bind ?_ (fun _ => ?_)
theorem laws_szIntSS.mono : ∀ a0 a1 k, LeO (laws_szIntSS.f k a0 a1) (laws_szIntSS.f (k + 1) a0 a1) := by
 intro a0 a1 k
 have ih0 := laws_szIntSS.mono_l k
 unfold laws_szIntSS.f
 repeat' first
   | (with_reducible exact ih0 _ _ _)
   | (with_reducible exact LeO.refl _)
   | (with_reducible exact LeO.none _)
   | (with_reducible refine LeO.ite ?_ ?_)
   | (with_reducible refine LeO.bind ?_ (fun _ => ?_))
   | exact ih0 _ _ _
   | exact LeO.none _
   | refine LeO.ite ?_ ?_
   | refine LeO.bind ?_ (fun _ => ?_)
end Go.Proofs.Ytmgmdnmfalepkaa.L

namespace Go.Proofs.Ytmgmdnmfalepkaa.HelpI
open Go.RowKit Go.Proofs.YtmgmdnmfalepkaaW.PrintWords Go.Proofs.YtmgmdnmfalepkaaW.PrintMore Go.Proofs.Ytmgmdnmfalepkaa.Kit Go.Proofs.Ytmgmdnmfalepkaa.PKit Go.Proofs.Ytmgmdnmfalepkaa.Ty
open Go.Proofs.Ytmgmdnmfalepkaa.L
set_option linter.unusedVariables false
abbrev tI : Ty (List Int) := Ty.row (Kd.int .i64) 3
end Go.Proofs.Ytmgmdnmfalepkaa.HelpI

namespace Go.Proofs.Ytmgmdnmfalepkaa.HelpII
open Go.RowKit Go.Proofs.YtmgmdnmfalepkaaW.PrintWords Go.Proofs.YtmgmdnmfalepkaaW.PrintMore Go.Proofs.Ytmgmdnmfalepkaa.Kit Go.Proofs.Ytmgmdnmfalepkaa.PKit Go.Proofs.Ytmgmdnmfalepkaa.Ty Go.Proofs.Ytmgmdnmfalepkaa.HelpI
open Go.Proofs.Ytmgmdnmfalepkaa.L
set_option linter.unusedVariables false
abbrev kI := Kd.slice 3 (Kd.int .i64)
abbrev tII : Ty (List (List Int)) := Ty.rows kI 22
def totalI : List (List Int) → Nat
 | [] => 0
 | x :: r => x.length + totalI r
theorem total_mem {xs : List (List Int)} {x : List Int} (h : x ∈ xs) : x.length ≤ totalI xs := by
 induction xs with
 | nil => cases h
 | cons y r ih =>
  simp only [totalI]
  rcases List.mem_cons.1 h with e | h
  ·subst e; omega
  ·have := ih h; omega
end Go.Proofs.Ytmgmdnmfalepkaa.HelpII

namespace Go.Proofs.Ytmgmdnmfalepkaa.L
open Go.RowKit Go.Proofs.YtmgmdnmfalepkaaW.PrintWords Go.Proofs.YtmgmdnmfalepkaaW.PrintLast Go.Proofs.YtmgmdnmfalepkaaW.PrintMore
attribute [local go_sem] max2_int min2_int max_two min_two max_three min_three max_four min_four
set_option linter.unusedVariables false
set_option linter.unusedSimpArgs false
def spec_l4sameBytes.f (l0 : List Int) (l1 : List Int) : Option (Bool) := some ((strOfNums l0).toList == (strOfNums l1).toList)
set_option maxHeartbeats 8000000 in
set_option maxRecDepth 100000 in
theorem spec_l4sameBytes.calls (A0 : Option Addr) (c0 : Nat) (l0 : List Int) (A1 : Option Addr) (c1 : Nat) (l1 : List Int) (r : Bool) (w : World) (hr0 : Kd.C (Kd.int .u8) w A0 l0.length l0) (hc0 : l0.length ≤ c0) (hr1 : Kd.C (Kd.int .u8) w A1 l1.length l1) (hc1 : l1.length ≤ c1) (h : spec_l4sameBytes.f l0 l1 = some r) :
  Calls Try.prog 101 #[.slice A0 l0.length c0, .slice A1 l1.length c1] w fun e w' => e = .returned (.bool r) ∧ Drawn0 w w' := by
 have HR0 := zA hr0
 have HC0 := zA hc0
 clear hr0 hc0
 have HR1 := zA hr1
 have HC1 := zA hc1
 clear hr1 hc1
 have H : (some ((strOfNums l0).toList == (strOfNums l1).toList)) = some r := h
 clear h
 obtain rfl := Option.some.inj H
 have hcv3 := Kd.C_string (P := Try.prog) (A := A0) (c := c0) Try.underlying33 Try.underlying5 Try.underlying9 HR0.out
 have hcv4 := Kd.C_string (P := Try.prog) (A := A1) (c := c1) Try.underlying33 Try.underlying5 Try.underlying9 HR1.out
 go_enter Try.func101, Try.ntmps101
 go_wp2
 go_ret
 exact ⟨zq6, zq10⟩
def spec_l1same.l0 : Nat → List Int → List Int → Int → Option (Bool)
 | 0, _, _, _ => none
 | k + 1, x0, x1, x5 => if x5 < (x0.length : Int) then (if 0 ≤ x5 then (if x5 < (x1.length : Int) then (if (rd x0 x5) = (rd x1 x5) then (spec_l1same.l0 k x0 x1 (wrap64 (x5 + 1))) else (some false)) else (none)) else (none)) else (some true)
def spec_l1same.f (k : Nat) (l0 : List Int) (l1 : List Int) : Option (Bool) := if (l0.length : Int) = (l1.length : Int) then (spec_l1same.l0 k l0 l1 0) else (some false)
theorem spec_l1same.mono_l : ∀ k, (∀ y0 y1 y2, LeO (spec_l1same.l0 k y0 y1 y2) (spec_l1same.l0 (k + 1) y0 y1 y2))
 | 0 => fun _ _ _ r h => by simp [spec_l1same.l0] at h
 | k + 1 => by
  have ih0 := spec_l1same.mono_l k
  ·intro y0 y1 y2
   unfold spec_l1same.l0
   repeat' first
   | (with_reducible exact ih0 _ _ _)
   | (with_reducible exact LeO.refl _)
   | (with_reducible exact LeO.none _)
   | (with_reducible refine LeO.ite ?_ ?_)
   | (with_reducible refine LeO.bind ?_ (fun _ => ?_))
   | exact ih0 _ _ _
   | exact LeO.none _
   | refine LeO.ite ?_ ?_
   | refine LeO.bind ?_ (fun _ => ?_)
theorem spec_l1same.mono : ∀ a0 a1 k, LeO (spec_l1same.f k a0 a1) (spec_l1same.f (k + 1) a0 a1) := by
 intro a0 a1 k
 have ih0 := spec_l1same.mono_l k
 unfold spec_l1same.f
 repeat' first
   | (with_reducible exact ih0 _ _ _)
   | (with_reducible exact LeO.refl _)
   | (with_reducible exact LeO.none _)
   | (with_reducible refine LeO.ite ?_ ?_)
   | (with_reducible refine LeO.bind ?_ (fun _ => ?_))
   | exact ih0 _ _ _
   | exact LeO.none _
   | refine LeO.ite ?_ ?_
   | refine LeO.bind ?_ (fun _ => ?_)
mutual
def spec_l4sameSeg.j0 : Nat → Bool → Int → List (List Int) → List Int → List (List Int) → Int → List (List Int) → List Int → List (List Int) → Option (Bool)
 | 0, _, _, _, _, _, _, _, _, _ => none
 | k + 1, x37, x420000, x420001, x420002, x420003, x421000, x421001, x421002, x421003 => if x37 = true then (some false) else (spec_l4sameSeg.l0 k 0 x420000 x420001 x420002 x420003 x421000 x421001 x421002 x421003)
def spec_l4sameSeg.l0 : Nat → Int → Int → List (List Int) → List Int → List (List Int) → Int → List (List Int) → List Int → List (List Int) → Option (Bool)
 | 0, _, _, _, _, _, _, _, _, _ => none
 | k + 1, x5, x420000, x420001, x420002, x420003, x421000, x421001, x421002, x421003 => if x5 < (x420001.length : Int) then (if 0 ≤ x5 then (if x5 < (x421001.length : Int) then ((spec_l4sameBytes.f (rd_L1 x420001 x5) (rd_L1 x421001 x5)).bind fun t424 => (if t424 = true then (spec_l4sameSeg.l0 k (wrap64 (x5 + 1)) x420000 x420001 x420002 x420003 x421000 x421001 x421002 x421003) else (some false))) else (none)) else (none)) else (spec_l4sameSeg.l1 k 0 x420000 x420001 x420002 x420003 x421000 x421001 x421002 x421003)
def spec_l4sameSeg.l1 : Nat → Int → Int → List (List Int) → List Int → List (List Int) → Int → List (List Int) → List Int → List (List Int) → Option (Bool)
 | 0, _, _, _, _, _, _, _, _, _ => none
 | k + 1, x6, x420000, x420001, x420002, x420003, x421000, x421001, x421002, x421003 => if x6 < (x420003.length : Int) then (if 0 ≤ x6 then (if x6 < (x421003.length : Int) then ((spec_l1same.f k (rd_L3 x420003 x6) (rd_L3 x421003 x6)).bind fun t427 => (if t427 = true then (spec_l4sameSeg.l1 k (wrap64 (x6 + 1)) x420000 x420001 x420002 x420003 x421000 x421001 x421002 x421003) else (some false))) else (none)) else (none)) else (some true)
end
def spec_l4sameSeg.f (k : Nat) (a0_0 : Int) (l0_1 : List (List Int)) (l0_2 : List Int) (l0_3 : List (List Int)) (a1_0 : Int) (l1_1 : List (List Int)) (l1_2 : List Int) (l1_3 : List (List Int)) : Option (Bool) := if a0_0 = a1_0 then (if (l0_1.length : Int) = (l1_1.length : Int) then ((spec_l1same.f k l0_2 l1_2).bind fun t421 => (if t421 = true then (spec_l4sameSeg.j0 k ((l0_3.length : Int) != (l1_3.length : Int)) a0_0 l0_1 l0_2 l0_3 a1_0 l1_1 l1_2 l1_3) else (spec_l4sameSeg.j0 k true a0_0 l0_1 l0_2 l0_3 a1_0 l1_1 l1_2 l1_3))) else (spec_l4sameSeg.j0 k true a0_0 l0_1 l0_2 l0_3 a1_0 l1_1 l1_2 l1_3)) else (spec_l4sameSeg.j0 k true a0_0 l0_1 l0_2 l0_3 a1_0 l1_1 l1_2 l1_3)
theorem spec_l4sameSeg.mono_l : ∀ k, (∀ y0 y1 y2 y3 y4 y5 y6 y7 y8, LeO (spec_l4sameSeg.j0 k y0 y1 y2 y3 y4 y5 y6 y7 y8) (spec_l4sameSeg.j0 (k + 1) y0 y1 y2 y3 y4 y5 y6 y7 y8)) ∧ (∀ y0 y1 y2 y3 y4 y5 y6 y7 y8, LeO (spec_l4sameSeg.l0 k y0 y1 y2 y3 y4 y5 y6 y7 y8) (spec_l4sameSeg.l0 (k + 1) y0 y1 y2 y3 y4 y5 y6 y7 y8)) ∧ (∀ y0 y1 y2 y3 y4 y5 y6 y7 y8, LeO (spec_l4sameSeg.l1 k y0 y1 y2 y3 y4 y5 y6 y7 y8) (spec_l4sameSeg.l1 (k + 1) y0 y1 y2 y3 y4 y5 y6 y7 y8))
 | 0 => ⟨fun _ _ _ _ _ _ _ _ _ r h => by simp [spec_l4sameSeg.j0] at h, fun _ _ _ _ _ _ _ _ _ r h => by simp [spec_l4sameSeg.l0] at h, fun _ _ _ _ _ _ _ _ _ r h => by simp [spec_l4sameSeg.l1] at h⟩
 | k + 1 => by
  obtain ⟨ih0, ih1, ih2⟩ := spec_l4sameSeg.mono_l k
  refine ⟨?_, ?_, ?_⟩
  ·intro y0 y1 y2 y3 y4 y5 y6 y7 y8
   unfold spec_l4sameSeg.j0
   repeat' first
   | (with_reducible exact ih0 _ _ _ _ _ _ _ _ _)
   | (with_reducible exact ih1 _ _ _ _ _ _ _ _ _)
   | (with_reducible exact ih2 _ _ _ _ _ _ _ _ _)
   | (with_reducible exact spec_l1same.mono _ _ _)
   | (with_reducible exact LeO.refl _)
   | (with_reducible exact LeO.none _)
   | (with_reducible refine LeO.ite ?_ ?_)
   | (with_reducible refine LeO.bind ?_ (fun _ => ?_))
   | exact ih0 _ _ _ _ _ _ _ _ _
   | exact ih1 _ _ _ _ _ _ _ _ _
   | exact ih2 _ _ _ _ _ _ _ _ _
   | exact spec_l1same.mono _ _ _
   | exact LeO.none _
   | refine LeO.ite ?_ ?_
   | refine LeO.bind ?_ (fun _ => ?_)
  ·intro y0 y1 y2 y3 y4 y5 y6 y7 y8
   unfold spec_l4sameSeg.l0
   repeat' first
   | (with_reducible exact ih0 _ _ _ _ _ _ _ _ _)
   | (with_reducible exact ih1 _ _ _ _ _ _ _ _ _)
   | (with_reducible exact ih2 _ _ _ _ _ _ _ _ _)
   | (with_reducible exact spec_l1same.mono _ _ _)
   | (with_reducible exact LeO.refl _)
   | (with_reducible exact LeO.none _)
   | (with_reducible refine LeO.ite ?_ ?_)
   | (with_reducible refine LeO.bind ?_ (fun _ => ?_))
   | exact ih0 _ _ _ _ _ _ _ _ _
   | exact ih1 _ _ _ _ _ _ _ _ _
   | exact ih2 _ _ _ _ _ _ _ _ _
   | exact spec_l1same.mono _ _ _
   | exact LeO.none _
   | refine LeO.ite ?_ ?_
   | refine LeO.bind ?_ (fun _ => ?_)
  ·intro y0 y1 y2 y3 y4 y5 y6 y7 y8
   unfold spec_l4sameSeg.l1
   repeat' first
   | (with_reducible exact ih0 _ _ _ _ _ _ _ _ _)
   | (with_reducible exact ih1 _ _ _ _ _ _ _ _ _)
   | (with_reducible exact ih2 _ _ _ _ _ _ _ _ _)
   | (with_reducible exact spec_l1same.mono _ _ _)
   | (with_reducible exact LeO.refl _)
   | (with_reducible exact LeO.none _)
   | (with_reducible refine LeO.ite ?_ ?_)
   | (with_reducible refine LeO.bind ?_ (fun _ => ?_))
   | exact ih0 _ _ _ _ _ _ _ _ _
   | exact ih1 _ _ _ _ _ _ _ _ _
   | exact ih2 _ _ _ _ _ _ _ _ _
   | exact spec_l1same.mono _ _ _
   | exact LeO.none _
   | refine LeO.ite ?_ ?_
   | refine LeO.bind ?_ (fun _ => ?_)
theorem spec_l4sameSeg.mono : ∀ a0 a1 a2 a3 a4 a5 a6 a7 k, LeO (spec_l4sameSeg.f k a0 a1 a2 a3 a4 a5 a6 a7) (spec_l4sameSeg.f (k + 1) a0 a1 a2 a3 a4 a5 a6 a7) := by
 intro a0 a1 a2 a3 a4 a5 a6 a7 k
 obtain ⟨ih0, ih1, ih2⟩ := spec_l4sameSeg.mono_l k
 unfold spec_l4sameSeg.f
 repeat' first
   | (with_reducible exact ih0 _ _ _ _ _ _ _ _ _)
   | (with_reducible exact ih1 _ _ _ _ _ _ _ _ _)
   | (with_reducible exact ih2 _ _ _ _ _ _ _ _ _)
   | (with_reducible exact spec_l1same.mono _ _ _)
   | (with_reducible exact LeO.refl _)
   | (with_reducible exact LeO.none _)
   | (with_reducible refine LeO.ite ?_ ?_)
   | (with_reducible refine LeO.bind ?_ (fun _ => ?_))
   | exact ih0 _ _ _ _ _ _ _ _ _
   | exact ih1 _ _ _ _ _ _ _ _ _
   | exact ih2 _ _ _ _ _ _ _ _ _
   | exact spec_l1same.mono _ _ _
   | exact LeO.none _
   | refine LeO.ite ?_ ?_
   | refine LeO.bind ?_ (fun _ => ?_)
def spec_l4valid.f (k : Nat) (a0_0 : Int) (l0_1 : List (List Int)) (l0_2 : List Int) (l0_3 : List (List Int)) : Option (Bool) := (spec_l4fits.f k a0_0 l0_1).bind fun t429 => (if t429 = true then ((spec_l4build.f k a0_0 l0_1).bind fun bt430 => ((spec_l4sameSeg.f k a0_0 l0_1 l0_2 l0_3 bt430.1 bt430.2.1 bt430.2.2.1 bt430.2.2.2).bind fun t440 => (some t440))) else (some false))
theorem spec_l4valid.mono : ∀ a0 a1 a2 a3 k, LeO (spec_l4valid.f k a0 a1 a2 a3) (spec_l4valid.f (k + 1) a0 a1 a2 a3) := by
 intro a0 a1 a2 a3 k
 unfold spec_l4valid.f
 repeat' first
   | (with_reducible exact spec_l4build.mono _ _ _)
   | (with_reducible exact spec_l4fits.mono _ _ _)
   | (with_reducible exact spec_l4sameSeg.mono _ _ _ _ _ _ _ _ _)
   | (with_reducible exact LeO.refl _)
   | (with_reducible exact LeO.none _)
   | (with_reducible refine LeO.ite ?_ ?_)
   | (with_reducible refine LeO.bind ?_ (fun _ => ?_))
   | exact spec_l4build.mono _ _ _
   | exact spec_l4fits.mono _ _ _
   | exact spec_l4sameSeg.mono _ _ _ _ _ _ _ _ _
   | exact LeO.none _
   | refine LeO.ite ?_ ?_
   | refine LeO.bind ?_ (fun _ => ?_)
def spec_l4valid.B3 : List Nat := [0, 0, 2, 0, 8, 30, 63, 127]
end Go.Proofs.Ytmgmdnmfalepkaa.L

namespace Go.Proofs.Ytmgmdnmfalepkaa.L
open Go.RowKit Go.Proofs.YtmgmdnmfalepkaaW.PrintWords Go.Proofs.YtmgmdnmfalepkaaW.PrintLast Go.Proofs.YtmgmdnmfalepkaaW.PrintMore
attribute [local go_sem] max2_int min2_int max_two min_two max_three min_three max_four min_four
set_option linter.unusedVariables false
set_option linter.unusedSimpArgs false
def spec_EncodeSegment.f (k : Nat) (a0_0 : Int) (l0_1 : List (List Int)) (l0_2 : List Int) (l0_3 : List (List Int)) : Option (List Int) := (spec_l4valid.f k a0_0 l0_1 l0_2 l0_3).bind fun t442 => (if t442 = true then ((spec_l4encode.f k a0_0 l0_1 l0_2 l0_3).bind fun t443 => (some t443)) else (some ([] : List Int)))
theorem spec_EncodeSegment.mono : ∀ a0 a1 a2 a3 k, LeO (spec_EncodeSegment.f k a0 a1 a2 a3) (spec_EncodeSegment.f (k + 1) a0 a1 a2 a3) := by
 intro a0 a1 a2 a3 k
 unfold spec_EncodeSegment.f
 repeat' first
   | (with_reducible exact spec_l4encode.mono _ _ _ _ _)
   | (with_reducible exact spec_l4valid.mono _ _ _ _ _)
   | (with_reducible exact LeO.refl _)
   | (with_reducible exact LeO.none _)
   | (with_reducible refine LeO.ite ?_ ?_)
   | (with_reducible refine LeO.bind ?_ (fun _ => ?_))
   | exact spec_l4encode.mono _ _ _ _ _
   | exact spec_l4valid.mono _ _ _ _ _
   | exact LeO.none _
   | refine LeO.ite ?_ ?_
   | refine LeO.bind ?_ (fun _ => ?_)
end Go.Proofs.Ytmgmdnmfalepkaa.L

namespace Go.Proofs.Ytmgmdnmfalepkaa.PEnc
open Go.RowKit Go.Proofs.YtmgmdnmfalepkaaW.PrintWords Go.Proofs.Ytmgmdnmfalepkaa.PKit Go.Proofs.Ytmgmdnmfalepkaa.POrd Go.Proofs.Ytmgmdnmfalepkaa.PTri Go.Proofs.Ytmgmdnmfalepkaa.PSeg Go.Proofs.Ytmgmdnmfalepkaa.L Go.Proofs.Ytmgmdnmfalepkaa.HelpBB
set_option linter.unusedVariables false
theorem getD_in {l : List Int} {i : Nat} (h : i < l.length) : l.getD i 0 ∈ l := by
 rw [getD_get l i h]
 exact List.getElem_mem h
theorem post_mem {b : Int} {ls : List (List Int)} {n : Nat} {k x : Int} (h : x ∈ post b ls n k) : b ≤ x ∧ x < b + (n : Int) := by
 unfold post at h
 obtain ⟨i, hi, rfl⟩ := List.mem_map.1 h
 have := List.mem_range.1 (List.mem_filter.1 hi).1
 omega
theorem post_asc (b : Int) (ls : List (List Int)) (n : Nat) (k : Int) : Asc (post b ls n k) := by
 induction n with
 | zero => exact List.Pairwise.nil
 | succ n ih =>
  rw [post_succ]
  by_cases h : hasT ls k n = true
  ·rw [if_pos h]
   exact snoc_asc ih (fun u hu => by have := (post_mem hu).2; omega)
  ·rw [if_neg h, List.append_nil]
   exact ih
theorem fits_parts {b : Int} {ls : List (List Int)} (hf : fits b ls = true) : 0 ≤ b ∧ b ≤ 1000 ∧ 1 ≤ ls.length ∧ b + (ls.length : Int) ≤ 1000 ∧ plain ls = true ∧ totalB ls ≤ 20000 := by
 unfold fits at hf
 simp only [Bool.and_eq_true, decide_eq_true_eq] at hf
 obtain ⟨⟨⟨⟨⟨h1, h2⟩, h3⟩, h4⟩, h5⟩, h6⟩ := hf
 exact ⟨h1, h2, h3, h4, h5, h6⟩
theorem keys_bd {ls : List (List Int)} (hb : Bytes ls) : ∀ x ∈ keys ls, 0 ≤ x ∧ x ≤ 16777215 := fun x hx => by
 obtain ⟨l, hl, hx2⟩ := List.mem_flatMap.1 ((mem_ord _ _).1 hx)
 exact tris_bd l (fun y hy => hb l hl y hy) x hx2
theorem asc_getD {l : List Int} (h : Asc l) {i j : Nat} (hij : i < j) (hj : j < l.length) : l.getD i 0 < l.getD j 0 := by
 rw [getD_get l i zq3, getD_get l j hj]
 exact asc_get h hij hj
theorem encOk_seg {b : Int} {ls : List (List Int)} (hf : fits b ls = true) (hb : Bytes ls) : EncOk (seg b ls) := by
 obtain ⟨h1, h2, h3, h4, h5, h6⟩ := fits_parts hf
 have hk := keys_len ls
 have ha : Asc (keys ls) := asc_ord _
 have hbd := keys_bd hb
 have hP : ∀ j, j < (keys ls).length → ((keys ls).map (post b ls ls.length)).getD j [] = post b ls ls.length ((keys ls).getD j 0) := fun j hj => by
  simp [List.getD, List.getElem?_map, List.getElem?_eq_getElem hj]
 refine ⟨h1, h2, by show ls.length ≤ 1000; omega, h6, by show (keys ls).length ≤ 20000; omega, by show ((keys ls).map _).length = (keys ls).length; rw [List.length_map], fun j => ?_, fun j hj => ?_, fun j i hj hi => ?_, fun j => ?_⟩
 ·show (((keys ls).map (post b ls ls.length)).getD j []).length ≤ 1000
  by_cases hj : j < (keys ls).length
  ·rw [hP j hj]
   have := post_len b ls ls.length ((keys ls).getD j 0)
   omega
  ·rw [show ((keys ls).map (post b ls ls.length)).getD j [] = [] from by simp [List.getD, List.getElem?_eq_none (show ((keys ls).map (post b ls ls.length)).length ≤ j by rw [List.length_map]; omega)]]
   simp
 ·show 0 ≤ gap (keys ls) j ∧ gap (keys ls) j ≤ 16777216
  have hj : j < (keys ls).length := hj
  have hm := hbd _ (getD_in hj)
  unfold gap
  by_cases h0 : j = 0
  ·subst h0
   rw [if_pos rfl]
   omega
  ·rw [if_neg h0]
   have hm2 := hbd _ (getD_in (show j - 1 < (keys ls).length by omega))
   have := asc_getD ha (show j - 1 < j by omega) hj
   omega
 ·have hj : j < (keys ls).length := hj
  have hi : i < (((keys ls).map (post b ls ls.length)).getD j []).length := hi
  show 0 ≤ del b (((keys ls).map (post b ls ls.length)).getD j []) i ∧ del b (((keys ls).map (post b ls ls.length)).getD j []) i ≤ 1000
  rw [hP j hj] at hi ⊢
  have hpa := post_asc b ls ls.length ((keys ls).getD j 0)
  have hm := post_mem (getD_in hi)
  unfold del
  by_cases h0 : i = 0
  ·subst h0
   rw [if_pos rfl]
   omega
  ·rw [if_neg h0]
   have hm2 := post_mem (getD_in (show i - 1 < (post b ls ls.length ((keys ls).getD j 0)).length by omega))
   have := asc_getD hpa (show i - 1 < i by omega) hi
   omega
 ·show -9223372036854775808 ≤ (keys ls).getD j 0 ∧ (keys ls).getD j 0 ≤ 9223372036854775807
  by_cases hj : j < (keys ls).length
  ·have := hbd _ (getD_in hj)
   omega
  ·rw [show (keys ls).getD j 0 = 0 from by simp [List.getD, List.getElem?_eq_none (Nat.le_of_not_lt hj)]]
   omega
def valid (s : SegT) : Bool := fits s.1 s.2.1 && (decide (s.2.2.1 = keys s.2.1) && decide (s.2.2.2 = (keys s.2.1).map (post s.1 s.2.1 s.2.1.length)))
theorem valid_seg {s : SegT} (h : valid s = true) : fits s.1 s.2.1 = true ∧ s = seg s.1 s.2.1 := by
 unfold valid at h
 simp only [Bool.and_eq_true, decide_eq_true_eq] at h
 obtain ⟨h1, h2, h3⟩ := h
 refine ⟨h1, ?_⟩
 obtain ⟨b, ls, K, Ps⟩ := s
 show (b, ls, K, Ps) = (b, ls, keys ls, (keys ls).map (post b ls ls.length))
 rw [show K = keys ls from h2, show Ps = (keys ls).map (post b ls ls.length) from h3]
def enc (s : SegT) : List Int := if valid s = true then code s else []
end Go.Proofs.Ytmgmdnmfalepkaa.PEnc

namespace Go.Proofs.Ytmgmdnmfalepkaa.Ty
open Go.RowKit Go.Proofs.YtmgmdnmfalepkaaW.PrintWords Go.Proofs.YtmgmdnmfalepkaaW.PrintMore Go.Proofs.Ytmgmdnmfalepkaa.Kit Go.Proofs.Ytmgmdnmfalepkaa.PKit
set_option linter.unusedVariables false
theorem Ty.M_set {α : Type} {T : Ty α} {w : World} {base : Nat} {ok : Nat → Prop} {x : α} {v : Value} (h : T.M w base ok x v) {g j : Nat} (hne : ∀ k, ok k → k = g → False) (u : Value) : T.M (w.setCell ⟨g, j, none⟩ u) base ok x v :=
 T.M_move (fun k hk => Below.heap_setCell w ⟨g, j, none⟩ u k (fun e => hne k hk e)) h
theorem Tys.M_one {α : Type} {a : Ty α} {w : World} {base : Nat} {ok : Nat → Prop} {x : α} {v : Value} (h : a.M w base ok x v) : (Tys.one a).M w base ok x [v] := ⟨v, rfl, h⟩
theorem Tys.cons_apart {α β : Type} {a : Ty α} {b : Tys β} {w : World} {base : Nat} {ok1 ok2 : Nat → Prop} {x : α} {y : β} {v : Value} {r : List Value} (h1 : a.M w base ok1 x v) (h2 : b.M w base ok2 y r) (hd : ∀ k, ok2 k → ok1 k → False) :
  (Tys.cons a b).M w base (fun k => ok1 k ∨ ok2 k) (x, y) (v :: r) :=
 ⟨v, r, ok1, ok2, rfl, fun _ h => .inl h, fun k h => ⟨.inr h, fun h' => hd k h h'⟩, h1, h2⟩
end Go.Proofs.Ytmgmdnmfalepkaa.Ty
namespace Go.Proofs.Ytmgmdnmfalepkaa.HelpBB
open Go.RowKit Go.Proofs.YtmgmdnmfalepkaaW.PrintWords Go.Proofs.Ytmgmdnmfalepkaa.PKit Go.Proofs.Ytmgmdnmfalepkaa.L Go.Proofs.Ytmgmdnmfalepkaa.Ty
end Go.Proofs.Ytmgmdnmfalepkaa.HelpBB
namespace Go.Proofs.Ytmgmdnmfalepkaa.HelpII
open Go.RowKit Go.Proofs.YtmgmdnmfalepkaaW.PrintWords Go.Proofs.Ytmgmdnmfalepkaa.PKit Go.Proofs.Ytmgmdnmfalepkaa.L Go.Proofs.Ytmgmdnmfalepkaa.Ty
end Go.Proofs.Ytmgmdnmfalepkaa.HelpII
namespace Go.Proofs.Ytmgmdnmfalepkaa.HelpI
open Go.RowKit Go.Proofs.YtmgmdnmfalepkaaW.PrintWords Go.Proofs.Ytmgmdnmfalepkaa.PKit Go.Proofs.Ytmgmdnmfalepkaa.L Go.Proofs.Ytmgmdnmfalepkaa.Ty
end Go.Proofs.Ytmgmdnmfalepkaa.HelpI

namespace Go.Proofs.Ytmgmdnmfalepkaa.L
open Go.RowKit Go.Proofs.YtmgmdnmfalepkaaW.PrintWords Go.Proofs.YtmgmdnmfalepkaaW.PrintLast Go.Proofs.YtmgmdnmfalepkaaW.PrintMore
attribute [local go_sem] max2_int min2_int max_two min_two max_three min_three max_four min_four
set_option linter.unusedVariables false
set_option linter.unusedSimpArgs false
def laws_szSegment.f (k : Nat) (a0_0 : Int) (l0_1 : List (List Int)) (l0_2 : List Int) (l0_3 : List (List Int)) (a1 : Int) : Option (Int) := (laws_szByteSS.f k l0_1 a1).bind fun t148 => (if t148 < 0 then (some (-1)) else ((laws_szIntS.f l0_2 t148).bind fun t149 => (if t149 < 0 then (some (-1)) else ((laws_szIntSS.f k l0_3 t149).bind fun t150 => (if t150 < 0 then (some (-1)) else (some t150))))))
theorem laws_szSegment.mono : ∀ a0 a1 a2 a3 a4 k, LeO (laws_szSegment.f k a0 a1 a2 a3 a4) (laws_szSegment.f (k + 1) a0 a1 a2 a3 a4) := by
 intro a0 a1 a2 a3 a4 k
 unfold laws_szSegment.f
 repeat' first
   | (with_reducible exact laws_szByteSS.mono _ _ _)
   | (with_reducible exact laws_szIntSS.mono _ _ _)
   | (with_reducible exact LeO.refl _)
   | (with_reducible exact LeO.none _)
   | (with_reducible refine LeO.ite ?_ ?_)
   | (with_reducible refine LeO.bind ?_ (fun _ => ?_))
   | exact laws_szByteSS.mono _ _ _
   | exact laws_szIntSS.mono _ _ _
   | exact LeO.none _
   | refine LeO.ite ?_ ?_
   | refine LeO.bind ?_ (fun _ => ?_)
end Go.Proofs.Ytmgmdnmfalepkaa.L

namespace Go.Proofs.Ytmgmdnmfalepkaa.HelpSeg
open Go.RowKit Go.Proofs.YtmgmdnmfalepkaaW.PrintWords Go.Proofs.YtmgmdnmfalepkaaW.PrintMore Go.Proofs.Ytmgmdnmfalepkaa.Kit Go.Proofs.Ytmgmdnmfalepkaa.PKit Go.Proofs.Ytmgmdnmfalepkaa.L Go.Proofs.Ytmgmdnmfalepkaa.Ty
set_option linter.unusedVariables false
abbrev X := Int × List (List Int) × List Int × List (List Int)
def tys : Tys X := (Tys.cons (Ty.sc (Value.int .i64)) (Tys.cons HelpBB.tBB (Tys.cons HelpI.tI (Tys.one HelpII.tII))))
abbrev tSeg : Ty X := Ty.agg tys
abbrev smallSeg (x : X) : Prop := (x.2.1.length + HelpBB.totalB x.2.1) + x.2.2.1.length + (x.2.2.2.length + HelpII.totalI x.2.2.2) ≤ 1048576
theorem form {w : World} {x : X} {v : Value} (h : tSeg.K w x v) : ∃ (A1 : Option Addr) (c1 : Nat) (A2 : Option Addr) (c2 : Nat) (A3 : Option Addr) (c3 : Nat), v = .agg #[.int .i64 (x.1), .slice A1 (x.2.1).length c1, .slice A2 (x.2.2.1).length c2, .slice A3 (x.2.2.2).length c3] := by
 obtain ⟨y0, y1, y2, y3⟩ := x
 obtain ⟨l, rfl, hl⟩ := h
 obtain ⟨u0, r0, rfl, h0, hl0⟩ := hl
 obtain ⟨u1, r1, rfl, h1, hl1⟩ := hl0
 obtain ⟨u2, r2, rfl, h2, hl2⟩ := hl1
 obtain ⟨u3, rfl, h3⟩ := hl2
 have h0 : u0 = .int .i64 y0 := h0
 subst h0
 obtain ⟨A1, c1, rfl, hc1, hr1⟩ := h1
 obtain ⟨A2, c2, rfl, hc2, hr2⟩ := h2
 obtain ⟨A3, c3, rfl, hc3, hr3⟩ := h3
 exact ⟨A1, c1, A2, c2, A3, c3, rfl⟩
end Go.Proofs.Ytmgmdnmfalepkaa.HelpSeg
