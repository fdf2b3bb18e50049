/- Parts of the proof (see the row's own text): PEnc, PSum, EncA, EncB. -/
import Derived.Test.YtmgmdnmfalepkaaG11
import Derived.Test.YtmgmdnmfalepkaaG12
import Derived.Laws.BitsLemmas
import Derived.Test.YtmgmdnmfalepkaaG6
import Derived.Deep.RegionLaw
import Derived.Deep.RegionHeld3
import Derived.Test.YtmgmdnmfalepkaaG7
import Derived.Test.YtmgmdnmfalepkaaG4
namespace Go.Proofs.Ytmgmdnmfalepkaa.PEnc
open Go.RowKit Go.Proofs.YtmgmdnmfalepkaaW.PrintWords Go.Proofs.Ytmgmdnmfalepkaa.PKit Go.Proofs.Ytmgmdnmfalepkaa.POrd Go.Proofs.Ytmgmdnmfalepkaa.PTri Go.Proofs.Ytmgmdnmfalepkaa.PSeg Go.Proofs.Ytmgmdnmfalepkaa.L Go.Proofs.Ytmgmdnmfalepkaa.HelpBB
set_option linter.unusedVariables false
def varint (n : Nat) : List Int := if h : n < 128 then [(n : Int)] else ((n % 128 + 128 : Nat) : Int) :: varint (n / 128)
termination_by n
decreasing_by omega
theorem varint_lt {n : Nat} (h : n < 128) : varint n = [(n : Int)] := by rw [varint, dif_pos h]
theorem varint_ge {n : Nat} (h : ¬ n < 128) : varint n = ((n % 128 + 128 : Nat) : Int) :: varint (n / 128) := by
  conv => lhs; rw [varint]
  rw [dif_neg h]
theorem varint_len : ∀ (k n : Nat), n < 128 ^ (k + 1) → (varint n).length ≤ k + 1 := by
  intro k
  induction k with
  | zero =>
    intro n hn
    rw [varint_lt (by simpa using hn)]
    simp
  | succ k ih =>
    intro n hn
    by_cases h : n < 128
    · rw [varint_lt h]
      simp
    · rw [varint_ge h]
      have := ih (n / 128) (by rw [Nat.div_lt_iff_lt_mul (by decide)]; rw [Nat.pow_succ] at hn; exact hn)
      simp only [List.length_cons]
      omega
theorem varint_len10 {n : Nat} (h : n < 4611686018427387904) : (varint n).length ≤ 9 := varint_len 8 n (by omega)
theorem varint_bytes (n : Nat) : ∀ x ∈ varint n, 0 ≤ x ∧ x ≤ 255 := by
  induction n using Nat.strongRecOn with
  | _ n ih =>
    intro x hx
    by_cases h : n < 128
    · rw [varint_lt h] at hx
      rw [List.mem_singleton.1 hx]
      omega
    · rw [varint_ge h] at hx
      rcases List.mem_cons.1 hx with e | hx
      · rw [e]
        omega
      · exact ih (n / 128) (by omega) x hx
theorem varint_ev : ∀ (n : Nat), n < 4611686018427387904 → Ev (fun k => spec_l4varint.f k (n : Int)) (varint n) := by
  intro n
  induction n using Nat.strongRecOn with
  | _ n ih =>
    intro hn
    by_cases h : n < 128
    · rw [varint_lt h]
      refine Ev.step (f := fun _ => some [(n : Int)]) (fun k => ?_) (Ev.now _)
      simp only [spec_l4varint.f]
      rw [if_pos (by omega)]
      congr 2
      omega
    · have hd : wrap64 (Int.tdiv (n : Int) 128) = ((n / 128 : Nat) : Int) := by
        rw [wrap_in (by have h1 : Int.tdiv (n : Int) 128 = ((n / 128 : Nat) : Int) := rfl; rw [h1]; omega)]
        rfl
      have hm : wrap64 (Int.tmod (n : Int) 128 + 128) = ((n % 128 + 128 : Nat) : Int) := by
        have h1 : Int.tmod (n : Int) 128 = ((n % 128 : Nat) : Int) := rfl
        rw [h1, wrap_in (by omega)]
        omega
      have hl := varint_len10 (n := n / 128) (by omega)
      rw [varint_ge h]
      refine Ev.step (f := fun k => (spec_l4varint.f k ((n / 128 : Nat) : Int)).bind fun t330 => (if [((n % 128 + 128 : Nat) : Int)].length + t330.length < 140737488355328 then (some ([((n % 128 + 128 : Nat) : Int)] ++ t330)) else none)) (fun k => ?_) (Ev.bind (ih (n / 128) (by omega) (by omega)) ?_)
      · simp only [spec_l4varint.f]
        rw [if_neg (by omega), hm, hd, Option.bind_some, show ((n % 128 + 128 : Nat) : Int) % 256 = ((n % 128 + 128 : Nat) : Int) by omega]
      · refine Ev.congr (f := fun _ => some _) (fun k => ?_) (Ev.now _)
        rw [if_pos (by simp only [List.length_singleton]; omega)]
        rfl
def gap (K : List Int) (j : Nat) : Int := if j = 0 then K.getD 0 0 else K.getD j 0 - K.getD (j - 1) 0
def del (b : Int) (P : List Int) (i : Nat) : Int := if i = 0 then P.getD 0 0 - b else P.getD i 0 - P.getD (i - 1) 0
def flat (f : Nat → List Int) (n : Nat) : List Int := (List.range n).flatMap f
theorem flat_succ (f : Nat → List Int) (n : Nat) : flat f (n + 1) = flat f n ++ f n := by simp [flat, List.range_succ]
theorem flat_len {f : Nat → List Int} {m : Nat} : ∀ n, (∀ i, i < n → (f i).length ≤ m) → (flat f n).length ≤ n * m := by
  intro n
  induction n with
  | zero => intro _; simp [flat]
  | succ n ih =>
    intro h
    rw [flat_succ, List.length_append, Nat.add_mul]
    have h1 := ih (fun i hi => h i (by omega))
    have h2 := h n (by omega)
    omega
def line (ls : List (List Int)) (i : Nat) : List Int := varint (ls.getD i []).length ++ ls.getD i []
def dels (b : Int) (P : List Int) (n : Nat) : List Int := flat (fun i => varint (del b P i).toNat) n
def grp (b : Int) (K : List Int) (Ps : List (List Int)) (j : Nat) : List Int := varint (gap K j).toNat ++ varint (Ps.getD j []).length ++ dels b (Ps.getD j []) (Ps.getD j []).length
def head (b : Int) (ls : List (List Int)) : List Int := [84, 71] ++ varint b.toNat ++ varint ls.length
def body (s : SegT) : List Int := head s.1 s.2.1 ++ flat (line s.2.1) s.2.1.length ++ varint s.2.2.1.length ++ flat (grp s.1 s.2.2.1 s.2.2.2) s.2.2.1.length
structure EncOk (s : SegT) : Prop where
  b0 : 0 ≤ s.1
  b1 : s.1 ≤ 1000
  l1 : s.2.1.length ≤ 1000
  t1 : totalB s.2.1 ≤ 20000
  k1 : s.2.2.1.length ≤ 20000
  pk : s.2.2.2.length = s.2.2.1.length
  p1 : ∀ j, (s.2.2.2.getD j []).length ≤ 1000
  g1 : ∀ j, j < s.2.2.1.length → 0 ≤ gap s.2.2.1 j ∧ gap s.2.2.1 j ≤ 16777216
  d1 : ∀ j i, j < s.2.2.1.length → i < (s.2.2.2.getD j []).length → 0 ≤ del s.1 (s.2.2.2.getD j []) i ∧ del s.1 (s.2.2.2.getD j []) i ≤ 1000
  kb : ∀ j, -9223372036854775808 ≤ s.2.2.1.getD j 0 ∧ s.2.2.1.getD j 0 ≤ 9223372036854775807
theorem line_len (ls : List (List Int)) (i : Nat) (h : totalB ls ≤ 20000) : (line ls i).length ≤ 20010 := by
  have h1 := getD_len ls i
  have h2 := varint_len10 (n := (ls.getD i []).length) (by omega)
  unfold line
  rw [List.length_append]
  omega
theorem dels_len {b : Int} {P : List Int} {n : Nat} (h : ∀ i, i < n → del b P i ≤ 1000) : (dels b P n).length ≤ n * 9 :=
  flat_len n (fun i hi => varint_len10 (by have := h i hi; omega))
theorem head_len {b : Int} {ls : List (List Int)} (h : b ≤ 1000) (h2 : ls.length ≤ 1000) : (head b ls).length ≤ 20 := by
  have h3 := varint_len10 (n := b.toNat) (by omega)
  have h4 := varint_len10 (n := ls.length) (by omega)
  unfold head
  simp only [List.length_append, List.length_cons, List.length_nil]
  omega
theorem grp_len {s : SegT} (h : EncOk s) (j : Nat) (hj : j < s.2.2.1.length) : (grp s.1 s.2.2.1 s.2.2.2 j).length ≤ 9018 := by
  have h1 := varint_len10 (n := (gap s.2.2.1 j).toNat) (by have := (h.g1 j hj).2; omega)
  have h2 := varint_len10 (n := (s.2.2.2.getD j []).length) (by have := h.p1 j; omega)
  have h3 := dels_len (b := s.1) (P := s.2.2.2.getD j []) (n := (s.2.2.2.getD j []).length) (fun i hi => (h.d1 j i hj hi).2)
  have h4 := h.p1 j
  unfold grp
  simp only [List.length_append]
  omega
theorem lines_len {s : SegT} (h : EncOk s) (i : Nat) (hi : i ≤ s.2.1.length) : (flat (line s.2.1) i).length ≤ 20010000 := by
  have h1 := flat_len (f := line s.2.1) i (fun j _ => line_len s.2.1 j h.t1)
  have h2 := h.l1
  have h3 : i * 20010 ≤ 1000 * 20010 := Nat.mul_le_mul_right _ (by omega)
  omega
theorem grps_len {s : SegT} (h : EncOk s) (j : Nat) (hj : j ≤ s.2.2.1.length) : (flat (grp s.1 s.2.2.1 s.2.2.2) j).length ≤ 180360000 := by
  have h1 := flat_len (f := grp s.1 s.2.2.1 s.2.2.2) (m := 9018) j (fun i hi => grp_len h i (by omega))
  have h2 := h.k1
  have h3 : j * 9018 ≤ 20000 * 9018 := Nat.mul_le_mul_right _ (by omega)
  omega
theorem body_ev (s : SegT) (h : EncOk s) : Ev (fun k => spec_l4body.f k s.1 s.2.1 s.2.2.1 s.2.2.2) (body s) := by
  obtain ⟨b, ls, K, Ps⟩ := s
  have hb0 : 0 ≤ b := h.b0
  have hb1 : b ≤ 1000 := h.b1
  have hl1 : ls.length ≤ 1000 := h.l1
  have ht1 : totalB ls ≤ 20000 := h.t1
  have hk1 : K.length ≤ 20000 := h.k1
  have hpk : Ps.length = K.length := h.pk
  have hhl : (head b ls).length ≤ 20 := head_len hb1 hl1
  have rdL : ∀ i : Nat, rd_L1 ls (i : Int) = ls.getD i [] := fun i => rfl
  have rdP : ∀ i : Nat, rd_L3 Ps (i : Int) = Ps.getD i [] := fun i => rfl
  have hll : (flat (line ls) ls.length).length ≤ 20010000 := lines_len h ls.length (Nat.le_refl _)
  have hkl := varint_len10 (n := K.length) (by omega)
  have L2 : ∀ (j : Nat) (o : List Int), j < K.length → o.length ≤ 300000000 → Ev (fun k => spec_l4body.l1 k (o ++ dels b (Ps.getD j []) (Ps.getD j []).length) ((j + 1 : Nat) : Int) b ls K Ps) (body (b, ls, K, Ps)) →
      ∀ (d i : Nat), i + d = (Ps.getD j []).length → Ev (fun k => spec_l4body.l2 k (o ++ dels b (Ps.getD j []) i) (j : Int) (i : Int) b ls K Ps) (body (b, ls, K, Ps)) := by
    intro j o hj ho hnext d
    have hp1 : (Ps.getD j []).length ≤ 1000 := h.p1 j
    have hd1 : ∀ i, i < (Ps.getD j []).length → 0 ≤ del b (Ps.getD j []) i ∧ del b (Ps.getD j []) i ≤ 1000 := fun i hi => h.d1 j i hj hi
    have hrd := rdP j
    generalize Ps.getD j [] = P at hnext hp1 hd1 hrd ⊢
    induction d with
    | zero =>
      intro i hd
      obtain rfl : i = P.length := by omega
      refine Ev.step (fun k => ?_) hnext
      simp only [spec_l4body.l2]
      rw [if_pos (by omega), if_pos (by omega), hrd, if_neg (by omega), wrap_succ j (by omega)]
    | succ d ih =>
      intro i hd
      have hr := ih (i + 1) (by omega)
      have hsucc : dels b P (i + 1) = dels b P i ++ varint (del b P i).toNat := flat_succ _ _
      obtain ⟨d0, d1⟩ := hd1 i (by omega)
      have hv := varint_ev (del b P i).toNat (by omega)
      rw [Int.toNat_of_nonneg d0] at hv
      have hvl := varint_len10 (n := (del b P i).toNat) (by omega)
      have hdl := dels_len (b := b) (P := P) (n := i) (fun q hq => (hd1 q (by omega)).2)
      have hcond : (o ++ dels b P i).length + (varint (del b P i).toNat).length < 140737488355328 := by rw [List.length_append]; omega
      rw [hsucc, ← List.append_assoc] at hr
      by_cases h0 : i = 0
      · subst h0
        have hdel : del b P 0 = P.getD 0 0 - b := rfl
        rw [hdel] at hv d0 d1 hcond hr
        refine Ev.step (f := fun k => (spec_l4varint.f k (P.getD 0 0 - b)).bind fun t397 => (if (o ++ dels b P 0).length + t397.length < 140737488355328 then (spec_l4body.l2 k ((o ++ dels b P 0) ++ t397) (j : Int) ((0 + 1 : Nat) : Int) b ls K Ps) else none)) (fun k => ?_) (Ev.bind hv (Ev.congr (fun k => if_pos hcond) hr))
        simp only [spec_l4body.l2]
        rw [if_pos (by omega), if_pos (by omega), hrd, if_pos (by omega), if_neg (by omega), if_pos (by omega), rd_at, wrap_in (by omega), wrap_succ 0 (by omega)]
      · have hdel : del b P i = P.getD i 0 - P.getD (i - 1) 0 := if_neg h0
        rw [hdel] at hv d0 d1 hcond hr
        have hw : wrap64 ((i : Int) - 1) = ((i - 1 : Nat) : Int) := by rw [wrap_in (by omega)]; omega
        refine Ev.step (f := fun k => (spec_l4varint.f k (P.getD i 0 - P.getD (i - 1) 0)).bind fun t389 => (if (o ++ dels b P i).length + t389.length < 140737488355328 then (spec_l4body.l2 k ((o ++ dels b P i) ++ t389) (j : Int) ((i + 1 : Nat) : Int) b ls K Ps) else none)) (fun k => ?_) (Ev.bind hv (Ev.congr (fun k => if_pos hcond) hr))
        simp only [spec_l4body.l2]
        rw [if_pos (by omega), if_pos (by omega), hrd, if_pos (by omega), if_pos (by omega), hw, if_pos (by omega), if_pos (by omega), if_pos (by omega), rd_at, rd_at, wrap_in (by omega), wrap_succ i (by omega)]
  have L1 : ∀ (d j : Nat), j + d = K.length → Ev (fun k => spec_l4body.l1 k (head b ls ++ flat (line ls) ls.length ++ varint K.length ++ flat (grp b K Ps) j) (j : Int) b ls K Ps) (body (b, ls, K, Ps)) := by
    intro d
    induction d with
    | zero =>
      intro j hd
      obtain rfl : j = K.length := by omega
      refine Ev.step (f := fun _ => some (body (b, ls, K, Ps))) (fun k => ?_) (Ev.now _)
      simp only [spec_l4body.l1]
      rw [if_neg (by omega)]
      rfl
    | succ d ih =>
      intro j hd
      have hj : j < K.length := by omega
      obtain ⟨g0, g1⟩ := h.g1 j hj
      have g0 : 0 ≤ gap K j := g0
      have g1 : gap K j ≤ 16777216 := g1
      have hgl : (flat (grp b K Ps) j).length ≤ 180360000 := grps_len h j (by show j ≤ K.length; omega)
      have hp1 : (Ps.getD j []).length ≤ 1000 := h.p1 j
      have hv1 := varint_ev (gap K j).toNat (by omega)
      rw [Int.toNat_of_nonneg g0] at hv1
      have hv2 := varint_ev (Ps.getD j []).length (by omega)
      have hl1' := varint_len10 (n := (gap K j).toNat) (by omega)
      have hl2' := varint_len10 (n := (Ps.getD j []).length) (by omega)
      generalize hO : head b ls ++ flat (line ls) ls.length ++ varint K.length ++ flat (grp b K Ps) j = O
      have hOl : O.length ≤ 250000000 := by rw [← hO]; simp only [List.length_append]; omega
      have hnext := ih (j + 1) (by omega)
      rw [flat_succ, ← List.append_assoc, hO] at hnext
      have hg : grp b K Ps j = varint (gap K j).toNat ++ varint (Ps.getD j []).length ++ dels b (Ps.getD j []) (Ps.getD j []).length := rfl
      rw [hg] at hnext
      have hin := L2 j (O ++ varint (gap K j).toNat ++ varint (Ps.getD j []).length) hj (by simp only [List.length_append]; omega) (by
        have e1 : O ++ varint (gap K j).toNat ++ varint (Ps.getD j []).length ++ dels b (Ps.getD j []) (Ps.getD j []).length = O ++ (varint (gap K j).toNat ++ varint (Ps.getD j []).length ++ dels b (Ps.getD j []) (Ps.getD j []).length) := by simp only [List.append_assoc]
        rw [e1]
        exact hnext) (Ps.getD j []).length 0 (by omega)
      have hd0 : dels b (Ps.getD j []) 0 = [] := rfl
      rw [hd0, List.append_nil] at hin
      have J2 : Ev (fun k => spec_l4body.j2 k O (j : Int) (gap K j) b ls K Ps) (body (b, ls, K, Ps)) := by
        refine Ev.step (f := fun k => (spec_l4varint.f k (gap K j)).bind fun t371 => (if O.length + t371.length < 140737488355328 then ((spec_l4varint.f k ((Ps.getD j []).length : Int)).bind fun t378 => (if (O ++ t371).length + t378.length < 140737488355328 then (spec_l4body.l2 k ((O ++ t371) ++ t378) (j : Int) ((0 : Nat) : Int) b ls K Ps) else none)) else none)) (fun k => ?_) (Ev.bind hv1 (Ev.congr (fun k => if_pos (by omega)) (Ev.bind hv2 (Ev.congr (fun k => if_pos (by rw [List.length_append]; omega)) hin))))
        simp only [spec_l4body.j2, Option.bind_some]
        simp only [show (0 : Int) ≤ (j : Int) from by omega, show (j : Int) < (Ps.length : Int) from by omega, if_true, rdP]
        rfl
      by_cases h0 : j = 0
      · subst h0
        refine Ev.step (fun k => ?_) J2
        simp only [spec_l4body.l1]
        rw [if_pos (by omega), if_pos (by omega), if_neg (by omega), rd_at]
        rfl
      · have hgap : gap K j = K.getD j 0 - K.getD (j - 1) 0 := if_neg h0
        have hw : wrap64 ((j : Int) - 1) = ((j - 1 : Nat) : Int) := by rw [wrap_in (by omega)]; omega
        refine Ev.step (fun k => ?_) J2
        simp only [spec_l4body.l1]
        rw [if_pos (by omega), if_pos (by omega), if_pos (by omega), hw, if_pos (by omega), if_pos (by omega), rd_at, rd_at, ← hgap, wrap_in (by omega)]
  have L0 : ∀ (d i : Nat), i + d = ls.length → Ev (fun k => spec_l4body.l0 k (head b ls ++ flat (line ls) i) (i : Int) b ls K Ps) (body (b, ls, K, Ps)) := by
    intro d
    induction d with
    | zero =>
      intro i hd
      obtain rfl : i = ls.length := by omega
      have h1 := L1 K.length 0 (by omega)
      have hf0 : flat (grp b K Ps) 0 = [] := rfl
      rw [hf0, List.append_nil] at h1
      refine Ev.step (f := fun k => (spec_l4varint.f k (K.length : Int)).bind fun t363 => (if (head b ls ++ flat (line ls) ls.length).length + t363.length < 140737488355328 then (spec_l4body.l1 k ((head b ls ++ flat (line ls) ls.length) ++ t363) ((0 : Nat) : Int) b ls K Ps) else none)) (fun k => ?_) (Ev.bind (varint_ev K.length (by omega)) (Ev.congr (fun k => if_pos (by rw [List.length_append]; omega)) h1))
      simp only [spec_l4body.l0]
      rw [if_neg (by omega)]
      rfl
    | succ d ih =>
      intro i hd
      have hfl : (flat (line ls) i).length ≤ 20010000 := lines_len h i (by show i ≤ ls.length; omega)
      have hil := getD_len ls i
      have hvl := varint_len10 (n := (ls.getD i []).length) (by omega)
      have hr := ih (i + 1) (by omega)
      have hline : line ls i = varint (ls.getD i []).length ++ ls.getD i [] := rfl
      rw [flat_succ, ← List.append_assoc, hline, ← List.append_assoc] at hr
      generalize hO : head b ls ++ flat (line ls) i = O at hr ⊢
      have hOl : O.length ≤ 20010020 := by rw [← hO, List.length_append]; omega
      refine Ev.step (f := fun k => (spec_l4varint.f k ((ls.getD i []).length : Int)).bind fun t353 => (if O.length + t353.length < 140737488355328 then (if (O ++ t353).length + (ls.getD i []).length < 140737488355328 then (spec_l4body.l0 k ((O ++ t353) ++ ls.getD i []) ((i + 1 : Nat) : Int) b ls K Ps) else none) else none)) (fun k => ?_) (Ev.bind (varint_ev (ls.getD i []).length (by omega)) (Ev.congr (fun k => if_pos (by omega)) (Ev.congr (fun k => if_pos (by rw [List.length_append]; omega)) hr)))
      simp only [spec_l4body.l0, Option.bind_some]
      rw [if_pos (by omega), if_pos (by omega), rdL, wrap_succ i (by omega)]
  have h0 := L0 ls.length 0 (by omega)
  have hf0 : flat (line ls) 0 = [] := rfl
  rw [hf0, List.append_nil] at h0
  have hv1 := varint_ev b.toNat (by omega)
  rw [Int.toNat_of_nonneg hb0] at hv1
  have hl1' := varint_len10 (n := b.toNat) (by omega)
  have hl2' := varint_len10 (n := ls.length) (by omega)
  show Ev (fun k => spec_l4body.f k b ls K Ps) _
  refine Ev.congr (f := fun k => (spec_l4varint.f k b).bind fun t340 => (if [(84 : Int), 71].length + t340.length < 140737488355328 then ((spec_l4varint.f k (ls.length : Int)).bind fun t346 => (if ([(84 : Int), 71] ++ t340).length + t346.length < 140737488355328 then (spec_l4body.l0 k (([84, 71] ++ t340) ++ t346) ((0 : Nat) : Int) b ls K Ps) else none)) else none)) (fun k => ?_) (Ev.bind hv1 (Ev.congr (fun k => if_pos (by simp only [List.length_cons, List.length_nil]; omega)) (Ev.bind (varint_ev ls.length (by omega)) (Ev.congr (fun k => if_pos (by simp only [List.length_append, List.length_cons, List.length_nil]; omega)) h0))))
  simp only [spec_l4body.f, Option.bind_some]
  rfl
end Go.Proofs.Ytmgmdnmfalepkaa.PEnc

namespace Go.Proofs.Ytmgmdnmfalepkaa.PEnc
open Go.RowKit Go.Proofs.YtmgmdnmfalepkaaW.PrintWords Go.Proofs.Ytmgmdnmfalepkaa.PKit Go.Proofs.Ytmgmdnmfalepkaa.POrd Go.Proofs.Ytmgmdnmfalepkaa.PTri Go.Proofs.Ytmgmdnmfalepkaa.PSeg Go.Proofs.Ytmgmdnmfalepkaa.L Go.Proofs.Ytmgmdnmfalepkaa.HelpBB
set_option linter.unusedVariables false
theorem xor_i64 (a b : Nat) (ha : a < 4294967296) (hb : b < 4294967296) : Go.bits .xor .i64 (a : Int) (b : Int) = ((a ^^^ b : Nat) : Int) := by
  have hx : a ^^^ b < 2 ^ 32 := Nat.xor_lt_two_pow (by omega) (by omega)
  have h1 : (BitVec.ofInt 64 (a : Int)).toNat = a := by
    rw [BitVec.ofInt_natCast, BitVec.toNat_ofNat]; exact Nat.mod_eq_of_lt (by omega)
  have h2 : (BitVec.ofInt 64 (b : Int)).toNat = b := by
    rw [BitVec.ofInt_natCast, BitVec.toNat_ofNat]; exact Nat.mod_eq_of_lt (by omega)
  show IntKind.i64.wrap ((BitVec.ofInt 64 (a : Int) ^^^ BitVec.ofInt 64 (b : Int)).toNat : Int) = _
  rw [BitVec.toNat_xor, h1, h2, IntKind.wrap_i64]
  omega
theorem xor_lt (a b : Nat) (ha : a < 4294967296) (hb : b < 4294967296) : a ^^^ b < 4294967296 := by
  have hx : a ^^^ b < 2 ^ 32 := Nat.xor_lt_two_pow (by omega) (by omega)
  omega
def mix (h : Nat) (c : Int) : Nat := ((h ^^^ c.toNat) * 16777619) % 4294967296
def sumFrom (z : Nat) (l : List Int) : Nat := l.foldl mix z
theorem sumFrom_snoc (z : Nat) (l : List Int) (c : Int) : sumFrom z (l ++ [c]) = mix (sumFrom z l) c := by
  unfold sumFrom
  rw [List.foldl_append, List.foldl_cons, List.foldl_nil]
def sum (l : List Int) : Nat := sumFrom 2166136261 l
theorem sum_snoc (l : List Int) (c : Int) : sum (l ++ [c]) = mix (sum l) c := sumFrom_snoc _ l c
theorem sum_nil : sum [] = 2166136261 := rfl
theorem mix_lt (h : Nat) (c : Int) : mix h c < 4294967296 := Nat.mod_lt _ (by decide)
theorem sum_lt (l : List Int) : sum l < 4294967296 := by
  rcases List.eq_nil_or_concat l with rfl | ⟨r, c, rfl⟩
  · rw [sum_nil]; decide
  · rw [List.concat_eq_append, sum_snoc]
    exact mix_lt _ _
def four (h : Nat) : List Int := [((h / 16777216 : Nat) : Int), ((h / 65536 % 256 : Nat) : Int), ((h / 256 % 256 : Nat) : Int), ((h % 256 : Nat) : Int)]
def code (s : SegT) : List Int := body s ++ four (sum (body s))
theorem sum_ev (l : List Int) (hb : ∀ x ∈ l, 0 ≤ x ∧ x ≤ 255) (hl : l.length ≤ 1099511627776) : Ev (fun k => spec_l4checksum.f k l) (four (sum l)) := by
  have key : ∀ (d i : Nat), i + d = l.length → Ev (fun k => spec_l4checksum.l0 k l (sum (l.take i) : Int) (i : Int)) (four (sum l)) := by
    intro d
    induction d with
    | zero =>
      intro i hd
      have e : l.take i = l := List.take_of_length_le (by omega)
      rw [e]
      have hs := sum_lt l
      generalize sum l = h at hs
      refine Ev.step (f := fun _ => some (four h)) (fun k => ?_) (Ev.now _)
      simp only [spec_l4checksum.l0]
      rw [if_neg (by omega)]
      have t1 : Int.tdiv (h : Int) 16777216 = ((h / 16777216 : Nat) : Int) := rfl
      have t2 : Int.tdiv (h : Int) 65536 = ((h / 65536 : Nat) : Int) := rfl
      have t3 : Int.tdiv (h : Int) 256 = ((h / 256 : Nat) : Int) := rfl
      have t4 : Int.tmod (h : Int) 256 = ((h % 256 : Nat) : Int) := rfl
      have t5 : Int.tmod ((h / 65536 : Nat) : Int) 256 = ((h / 65536 % 256 : Nat) : Int) := rfl
      have t6 : Int.tmod ((h / 256 : Nat) : Int) 256 = ((h / 256 % 256 : Nat) : Int) := rfl
      rw [t1, t2, t3, t4, wrap_in (x := ((h / 16777216 : Nat) : Int)) (by omega), wrap_in (x := ((h / 65536 : Nat) : Int)) (by omega), wrap_in (x := ((h / 256 : Nat) : Int)) (by omega), t5, t6]
      unfold four
      congr 2
      · omega
      · congr 1
        · omega
        · congr 1
          · omega
          · congr 1
            omega
    | succ d ih =>
      intro i hd
      have hi : i < l.length := by omega
      have ht : l.take (i + 1) = l.take i ++ [l.getD i 0] := by
        rw [List.take_succ_eq_append_getElem hi]
        simp [List.getD, List.getElem?_eq_getElem hi]
      have hr := ih (i + 1) (by omega)
      rw [ht, sum_snoc] at hr
      obtain ⟨c0, c1⟩ := hb (l.getD i 0) (by
        have e : l.getD i 0 = l[i] := by simp [List.getD, List.getElem?_eq_getElem hi]
        rw [e]
        exact List.getElem_mem hi)
      have hs := sum_lt (l.take i)
      generalize sum (l.take i) = h at hs hr ⊢
      have hx := xor_lt h (l.getD i 0).toNat hs (by omega)
      refine Ev.step (fun k => ?_) hr
      simp only [spec_l4checksum.l0]
      rw [if_pos (by omega), if_pos (by omega), rd_at, wrap_in (x := l.getD i 0) (by omega)]
      have e1 : Go.bits .xor .i64 (h : Int) (l.getD i 0) = ((h ^^^ (l.getD i 0).toNat : Nat) : Int) := by
        have := xor_i64 h (l.getD i 0).toNat hs (by omega)
        rwa [Int.toNat_of_nonneg c0] at this
      rw [e1, wrap_in (by omega), wrap_succ i (by omega)]
      have e2 : Int.tmod (((h ^^^ (l.getD i 0).toNat : Nat) : Int) * 16777619) 4294967296 = ((mix h (l.getD i 0) : Nat) : Int) := by
        have : ((h ^^^ (l.getD i 0).toNat : Nat) : Int) * 16777619 = (((h ^^^ (l.getD i 0).toNat) * 16777619 : Nat) : Int) := by omega
        rw [this]
        rfl
      rw [e2]
  have h := key l.length 0 (by omega)
  exact Ev.congr (fun k => by simp only [spec_l4checksum.f]; rfl) h
theorem flat_bytes {f : Nat → List Int} : ∀ n, (∀ i, i < n → ∀ x ∈ f i, 0 ≤ x ∧ x ≤ 255) → ∀ x ∈ flat f n, 0 ≤ x ∧ x ≤ 255 := by
  intro n h x hx
  obtain ⟨i, hi, hx⟩ := List.mem_flatMap.1 hx
  exact h i (List.mem_range.1 hi) x hx
theorem body_bytes (s : SegT) (hb : Bytes s.2.1) : ∀ x ∈ body s, 0 ≤ x ∧ x ≤ 255 := by
  intro x hx
  unfold body head at hx
  simp only [List.mem_append] at hx
  rcases hx with ((((hx | hx) | hx) | hx) | hx) | hx
  · simp only [List.mem_cons, List.not_mem_nil, or_false] at hx
    rcases hx with rfl | rfl <;> omega
  · exact varint_bytes _ x hx
  · exact varint_bytes _ x hx
  · refine flat_bytes _ (fun i hi y hy => ?_) x hx
    unfold line at hy
    rcases List.mem_append.1 hy with hy | hy
    · exact varint_bytes _ y hy
    · exact getD_bytes hb i y hy
  · exact varint_bytes _ x hx
  · refine flat_bytes _ (fun j hj y hy => ?_) x hx
    unfold grp at hy
    simp only [List.mem_append] at hy
    rcases hy with (hy | hy) | hy
    · exact varint_bytes _ y hy
    · exact varint_bytes _ y hy
    · exact flat_bytes _ (fun i hi z hz => varint_bytes _ z hz) y hy
theorem body_len {s : SegT} (h : EncOk s) : (body s).length ≤ 250000000 := by
  have h1 := head_len h.b1 h.l1
  have h2 := lines_len h s.2.1.length (Nat.le_refl _)
  have h3 := varint_len10 (n := s.2.2.1.length) (by have := h.k1; omega)
  have h4 := grps_len h s.2.2.1.length (Nat.le_refl _)
  unfold body
  simp only [List.length_append]
  omega
theorem code_len {s : SegT} (h : EncOk s) : (code s).length ≤ 250000004 := by
  have := body_len h
  unfold code
  rw [List.length_append]
  simp only [four, List.length_cons, List.length_nil]
  omega
theorem encode_ev (s : SegT) (h : EncOk s) (hb : Bytes s.2.1) : Ev (fun k => spec_l4encode.f k s.1 s.2.1 s.2.2.1 s.2.2.2) (code s) := by
  have hl := body_len h
  refine Ev.congr (fun k => by simp only [spec_l4encode.f]) (Ev.bind (f := fun k t408 => (spec_l4checksum.f k t408).bind fun t411 => (if t408.length + t411.length < 140737488355328 then some (t408 ++ t411) else none)) (body_ev s h) (Ev.bind (sum_ev (body s) (body_bytes s hb) (by omega)) (Ev.congr (f := fun _ => some (code s)) (fun k => if_pos (by simp only [four, List.length_cons, List.length_nil]; omega)) (Ev.now _))))
end Go.Proofs.Ytmgmdnmfalepkaa.PEnc

namespace Go.Proofs.Ytmgmdnmfalepkaa.EncA
open Go.RowKit Go.Proofs.YtmgmdnmfalepkaaW.PrintWords Go.Proofs.YtmgmdnmfalepkaaW.PrintMore Go.Proofs.Ytmgmdnmfalepkaa.Kit Go.Proofs.Ytmgmdnmfalepkaa.PKit Go.Proofs.Ytmgmdnmfalepkaa.Ty Go.Proofs.Ytmgmdnmfalepkaa.PEnc Go.Proofs.Ytmgmdnmfalepkaa.Build
set_option linter.unusedVariables false
def Enc (w0 w : World) (ge : Nat) (No : Nat → Prop) (o : List Int) : Prop :=
  w0.heap.size ≤ ge ∧ Below w0.heap.size w0 w ∧ ∃ A c, w.heap[ge]? = some (.cells #[.slice A o.length c] 154 (0, 0)) ∧ Kd.R (Kd.int .u8) 5 w w0.heap.size (fun k => k ≠ ge ∧ ¬ No k) (.slice A o.length c) o
theorem or128 (n : Nat) : Go.bits .or .u8 ((n : Int) % 256) 128 = ((n % 128 + 128 : Nat) : Int) := by
  have key : ∀ m : Fin 256, Go.bits .or .u8 ((m.val : Nat) : Int) 128 = ((m.val % 128 + 128 : Nat) : Int) := by decide +kernel
  have := key ⟨n % 256, Nat.mod_lt _ (by decide)⟩
  have e : ((n % 256 : Nat) : Int) = (n : Int) % 256 := by omega
  simp only [e] at this
  rw [this]
  have : n % 256 % 128 = n % 128 := by omega
  rw [this]
theorem getD_get' (l : List Int) (i : Nat) (h : i < l.length) : l.getD i 0 = l[i] := by simp [List.getD, List.getElem?_eq_getElem h]
def nums (ns : List Nat) : List Int := ns.flatMap varint
theorem nums_take (ns : List Nat) (i : Nat) (h : i < ns.length) : nums (ns.take (i + 1)) = nums (ns.take i) ++ varint (ns.getD i 0) := by
  unfold nums
  rw [List.take_succ_eq_append_getElem h, List.flatMap_append]
  congr 1
  simp [List.getD, List.getElem?_eq_getElem h]
theorem nums_len (ns : List Nat) (hn : ∀ n ∈ ns, n < 4611686018427387904) : (nums ns).length ≤ 9 * ns.length := by
  induction ns with
  | nil => simp [nums]
  | cons n r ih =>
    have h1 := varint_len10 (hn n (by simp))
    have h2 := ih (fun m hm => hn m (List.mem_cons_of_mem _ hm))
    have e : nums (n :: r) = varint n ++ nums r := rfl
    rw [e, List.length_append, List.length_cons]
    omega
set_option maxRecDepth 100000 in
set_option maxHeartbeats 4000000 in
theorem numbers_calls (ge gL : Nat) (o : List Int) (ns : List Nat) (w0 w : World) (hE : Enc w0 w ge (fun k => k = gL) o) (hL : w.heap[gL]? = some (.cells (ns.map fun (n : Nat) => Value.int .i64 (n : Int)).toArray 3 (0, 0))) (hge : ge ≠ gL)
    (hn : ∀ n ∈ ns, n < 4611686018427387904) (hl : ns.length ≤ 1000) (ho : o.length ≤ 1099511627776) :
    Calls Try.prog 144 #[.pointer (some ⟨ge, 0, none⟩), .slice (some ⟨gL, 0, none⟩) ns.length ns.length] w fun e w' => e = .returned (.tuple #[]) ∧ Enc w0 w' ge (fun k => k = gL) (o ++ nums ns) := by
  have HE := Aside0.mk hE
  have HL := Aside0.mk hL
  have HN := Aside0.mk hn
  clear hE hL hn
  go_enter Try.func144, Try.ntmps144
  go_wp2
  go_loopg [8] ns.length (fun gg s8 wr => ∃ i : Nat, i ≤ ns.length ∧ ns.length - i ≤ gg ∧ s8 = .int .i64 i ∧ Aside0 (Enc w0 wr ge (fun k => k = gL) (o ++ nums (ns.take i))) ∧ Aside0 (wr.heap[gL]? = some (.cells (ns.map fun (n : Nat) => Value.int .i64 (n : Int)).toArray 3 (0, 0))))
  case atStart => exact ⟨0, by omega, by omega, rfl, ⟨by simpa [nums] using HE.out⟩, HL⟩
  case round =>
    obtain ⟨i, hi, hg, rfl, HE1, HL1⟩ := hrel
    by_cases hlt : i < ns.length
    · have hltz : (i : Int) < (ns.length : Int) := by omega
      have hcell : wr.cell? ⟨gL, i, none⟩ = some (.int .i64 ((ns.getD i 0 : Nat) : Int)) := (blk_cell HL1.out i).trans (by simp [List.getD, List.getElem?_eq_getElem hlt])
      have hnb := HN.out (ns.getD i 0) (by simp [List.getD, List.getElem?_eq_getElem hlt])
      have HT := Aside0.mk (nums_take ns i hlt)
      have HNL := Aside0.mk (nums_len (ns.take i) (fun n hn => HN.out n (List.mem_of_mem_take hn)))
      have HVL := Aside0.mk (varint_len10 hnb)
      generalize hx : ns.getD i 0 = n at hcell hnb HT HVL
      clear hx
      rename World => wo
      go_wp2
      go_loopg [5] n (fun gg s5 wr => ∃ (m : Nat) (p : List Int), m ≤ gg ∧ m ≤ n ∧ s5 = .int .i64 m ∧ Aside0 (p ++ varint m = o ++ nums (ns.take i) ++ varint n) ∧ Aside0 (Enc w0 wr ge (fun k => k = gL) p) ∧ Aside0 (wr.heap[gL]? = some (.cells (ns.map fun (n : Nat) => Value.int .i64 (n : Int)).toArray 3 (0, 0))))
      case atStart => exact ⟨n, o ++ nums (ns.take i), Nat.le_refl _, Nat.le_refl _, rfl, ⟨rfl⟩, HE1, HL1⟩
      case round =>
        rename World => wi
        obtain ⟨m, p, hm, hmn, rfl, HP, HE2, HL2⟩ := hrel
        have hpl : p.length ≤ 1099511700000 := by
          have h1 := congrArg List.length HP.out
          have h2 := HNL.out
          have h3 := HVL.out
          simp only [List.length_append] at h1
          rw [List.length_take] at h2
          omega
        obtain ⟨hge0, hB, Ao, co, hb, hR⟩ := HE2.out
        have HB0 := Aside0.mk hB
        have HBK := Aside0.mk hb
        have HR := Aside0.mk hR
        have HFR := Aside0.mk (show ∀ k, wi.heap.size ≤ k → k ≠ ge ∧ ¬ k = gL from fun k hk => ⟨fun e => by have := blk_lt HBK.out; omega, fun e => by have := blk_lt HL2.out; omega⟩)
        have hcg : wi.cell? ⟨ge, 0, none⟩ = some (.slice Ao p.length co) := (blk_cell hb 0).trans rfl
        have hfg := blk_frozen hb 0
        clear hB hb hR
        by_cases h128 : 128 ≤ m
        · have hz : (128 : Int) ≤ (m : Int) := by omega
          go_wp2_with (first | (at_builtin; refine Kd.R_append (Kd.int .u8) (w0 := w0) w0.heap.size rfl (.tmp 18) (.tmp 22) 33 5 (.int .u8 0) 1 rfl Try.underlying33 infoB rfl (by decide) (by decide) (.slice Ao p.length co) p _ [.int .u8 _] (fun k => k ≠ ge ∧ ¬ k = gL) (fun _ => False) rfl rfl rfl (fun _ h => h.elim) HFR.out HR.out HB0.out HB0.out.size (by omega) ?_; rintro v1 w1 hR1 hB1 hg1 hat1; obtain ⟨A1, c1, rfl⟩ := Kd.R_slice hR1; have hb1 := blk_grown HBK.out hg1 (fun e => (HR.out.1 ge e.symm).1 rfl); have hL1 := blk_grown HL2.out hg1 (fun e => (HR.out.1 gL e.symm).2 rfl); have hcg1 : w1.cell? ⟨ge, 0, none⟩ = some (.slice Ao p.length co) := (blk_cell hb1 0).trans rfl; have hfg1 := blk_frozen hb1 0))
          rw [or128 m] at hR1
          go_roundg (m / 128)
          case measure => omega
          case rel =>
            refine ⟨m / 128, p ++ [((m % 128 + 128 : Nat) : Int)], Nat.le_refl _, by omega, ?_, ⟨?_⟩, ⟨hge0, below_set hB1 hge0, A1, c1, ?_, Kd.R_far hR1 (fun k hk => hk.1) _⟩, ⟨blk_far hL1 (fun e => hge e.symm) _⟩⟩
            · show Value.int .i64 ((m : Int) / 128) = _
              first | rfl | (congr 1; omega)
            · rw [← HP.out, varint_ge (n := m) (by omega), List.append_assoc]
              rfl
            · refine blk_put (cs := #[.slice Ao p.length co]) hb1 0 _ ?_
              simp only [List.length_append, List.length_singleton]
              rfl
        · have hz : ¬ (128 : Int) ≤ (m : Int) := by omega
          go_wp2_with (first | (at_builtin; refine Kd.R_append (Kd.int .u8) (w0 := w0) w0.heap.size rfl (.tmp 32) (.tmp 35) 33 5 (.int .u8 0) 1 rfl Try.underlying33 infoB rfl (by decide) (by decide) (.slice Ao p.length co) p _ [.int .u8 _] (fun k => k ≠ ge ∧ ¬ k = gL) (fun _ => False) rfl rfl rfl (fun _ h => h.elim) HFR.out HR.out HB0.out HB0.out.size (by omega) ?_; rintro v1 w1 hR1 hB1 hg1 hat1; obtain ⟨A1, c1, rfl⟩ := Kd.R_slice hR1; have hb1 := blk_grown HBK.out hg1 (fun e => (HR.out.1 ge e.symm).1 rfl); have hL1 := blk_grown HL2.out hg1 (fun e => (HR.out.1 gL e.symm).2 rfl); have hcg1 : w1.cell? ⟨ge, 0, none⟩ = some (.slice Ao p.length co) := (blk_cell hb1 0).trans rfl; have hfg1 := blk_frozen hb1 0))
          go_roundg (ns.length - (i + 1))
          case measure => omega
          case rel =>
            have hpn : o ++ nums (ns.take (i + 1)) = p ++ [(m : Int)] := by rw [HT.out, ← List.append_assoc, ← HP.out, varint_lt (by omega)]
            refine ⟨i + 1, by omega, by omega, by go_num, ⟨?_⟩, ⟨blk_far hL1 (fun e => hge e.symm) _⟩⟩
            rw [hpn]
            refine ⟨hge0, below_set hB1 hge0, A1, c1, ?_, Kd.R_far hR1 (fun k hk => hk.1) _⟩
            refine blk_put (cs := #[.slice Ao p.length co]) hb1 0 _ ?_
            simp only [List.length_append, List.length_singleton]
            rfl
    · have hltz : ¬ (i : Int) < (ns.length : Int) := by omega
      obtain rfl : i = ns.length := by omega
      go_wp2
      go_end0
      have h1 := HE1.out
      rw [List.take_length] at h1
      exact ⟨rfl, h1⟩
theorem Enc.mono {w0 w : World} {ge : Nat} {No No' : Nat → Prop} {o : List Int} (h : Enc w0 w ge No o) (hn : ∀ k, No' k → No k) : Enc w0 w ge No' o := by
  obtain ⟨h1, h2, A, c, h3, h4⟩ := h
  exact ⟨h1, h2, A, c, h3, Kd.R_mono h4 (fun k hk => ⟨hk.1, fun h => hk.2 (hn k h)⟩)⟩
theorem Enc.list {w0 w : World} {ge : Nat} {o : List Int} (h : Enc w0 w ge (fun _ => False) o) (x : Obj) : Enc w0 (w.alloc x) ge (fun k => k = w.heap.size) o ∧ ge ≠ w.heap.size := by
  obtain ⟨h1, h2, A, c, h3, h4⟩ := h
  refine ⟨⟨h1, below_alloc h2 _, A, c, blk_alloc h3 _, Kd.R_alloc (Kd.R_mono (Kd.R_bound h4) (fun k hk => ⟨hk.1.1, fun e => by have := hk.2.2.1; omega⟩)) _⟩, fun e => by have := blk_lt h3; omega⟩
set_option maxRecDepth 100000 in
set_option maxHeartbeats 4000000 in
theorem bytes_calls (ge : Nat) (o : List Int) (A : Option Addr) (c : Nat) (l : List Int) (w0 w : World) (hE : Enc w0 w ge (fun _ => False) o) (hr : Kd.C (Kd.int .u8) w0 A l.length l) (hl : l.length ≤ 1048576) (ho : o.length ≤ 1099511627776) :
    Calls Try.prog 145 #[.pointer (some ⟨ge, 0, none⟩), .slice A l.length c] w fun e w' => e = .returned (.tuple #[]) ∧ Enc w0 w' ge (fun _ => False) (o ++ (varint l.length ++ l)) := by
  have HR0 := Aside0.mk hr
  obtain ⟨hE1, hne⟩ := hE.list (.cells #[.int .i64 (l.length : Int)] 3)
  have hnum := numbers_calls ge w.heap.size o [l.length] w0 _ hE1 ((heap_alloc_new w _).trans rfl) hne (by simp; omega) (by simp) ho
  have e1 : nums [l.length] = varint l.length := by simp [nums]
  rw [e1] at hnum
  clear hr hE hE1 hne e1
  go_enter Try.func145, Try.ntmps145
  go_wp2_with fail
  go_at_call 144
  refine hnum.mono ?_
  rintro e w1 ⟨rfl, hE2⟩
  obtain ⟨hge0, hB, Ao, co, hb, hR⟩ := hE2
  have hvl := varint_len10 (n := l.length) (by omega)
  generalize hp : o ++ varint l.length = p at hb hR
  have HP := Aside0.mk hp
  have hpl : p.length ≤ 1099511627800 := by rw [← hp, List.length_append]; omega
  clear hp
  have HB0 := Aside0.mk hB
  have HBK := Aside0.mk hb
  have HR := Aside0.mk hR
  have HFR := Aside0.mk (show ∀ k, w1.heap.size ≤ k → k ≠ ge ∧ ¬ False from fun k hk => ⟨fun e => by have := blk_lt HBK.out; omega, id⟩)
  have HRF := Aside0.mk (Kd.R_mono hR (ok' := fun k => k ≠ ge ∧ ¬ False) (fun k hk => ⟨hk.1, id⟩))
  have hcg : w1.cell? ⟨ge, 0, none⟩ = some (.slice Ao p.length co) := (blk_cell hb 0).trans rfl
  have hfg := blk_frozen hb 0
  clear hB hb hR
  go_wp2_with (at_builtin; refine Kd.R_append_rows (Kd.int .u8) (Rr := (Kd.int .u8).K w1) (w0 := w0) w0.heap.size rfl (.tmp 13) (.tmp 14) 33 5 (.int .u8 0) 1 rfl Try.underlying33 infoB rfl (by decide) (by decide) (.slice Ao p.length co) p l A l.length c (fun k => k ≠ ge ∧ ¬ False) (fun _ => False) rfl rfl HRF.out (Kd.C_below HR0.out HB0.out) (fun x cs h => h) (fun _ h => h.elim) HFR.out HB0.out HB0.out.size (by omega) ?_; rintro v1 w2 hR1 hB1 hg1 hat1; obtain ⟨A1, c1, rfl⟩ := Kd.R_slice hR1; have hb1 := blk_grown HBK.out hg1 (fun e => (HR.out.1 ge e.symm).1 rfl); have hcg1 : w2.cell? ⟨ge, 0, none⟩ = some (.slice Ao p.length co) := (blk_cell hb1 0).trans rfl; have hfg1 := blk_frozen hb1 0)
  go_end0
  refine ⟨rfl, ?_⟩
  rw [← List.append_assoc, HP.out]
  exact ⟨hge0, below_set hB1 hge0, A1, c1, blk_put (cs := #[.slice Ao p.length co]) hb1 0 _ (by rw [List.length_append]; rfl), Kd.R_far hR1 (fun k hk => hk.1) _⟩
theorem xor_u32 (a b : Nat) (ha : a < 4294967296) (hb : b < 4294967296) : Go.bits .xor .u32 (a : Int) (b : Int) = ((a ^^^ b : Nat) : Int) := by
  have hx : a ^^^ b < 2 ^ 32 := Nat.xor_lt_two_pow (by omega) (by omega)
  have h1 : (BitVec.ofInt 32 (a : Int)).toNat = a := by
    rw [BitVec.ofInt_natCast, BitVec.toNat_ofNat]; exact Nat.mod_eq_of_lt (by omega)
  have h2 : (BitVec.ofInt 32 (b : Int)).toNat = b := by
    rw [BitVec.ofInt_natCast, BitVec.toNat_ofNat]; exact Nat.mod_eq_of_lt (by omega)
  have hw : ∀ n : Int, IntKind.u32.wrap n = n % 4294967296 := fun n => by simp [IntKind.wrap, IntKind.bits, IntKind.signed]
  show IntKind.u32.wrap ((BitVec.ofInt 32 (a : Int) ^^^ BitVec.ofInt 32 (b : Int)).toNat : Int) = _
  rw [BitVec.toNat_xor, h1, h2, hw]
  omega
set_option maxRecDepth 100000 in
set_option maxHeartbeats 4000000 in
theorem sum_calls (A : Option Addr) (c : Nat) (l : List Int) (w : World) (hr : Kd.C (Kd.int .u8) w A l.length l) (hb : ∀ x ∈ l, 0 ≤ x ∧ x ≤ 255) (hl : l.length ≤ 1099511627776) :
    Calls Try.prog 146 #[.slice A l.length c] w fun e w' => e = .returned (.int .u32 (sum l : Int)) ∧ w' = w := by
  have HR := Aside0.mk hr
  have HB := Aside0.mk hb
  clear hr hb
  go_enter Try.func146, Try.ntmps146
  go_wp2
  go_loopg [3, 8] l.length (fun gg s3 s8 wr => ∃ i : Nat, i ≤ l.length ∧ l.length - i ≤ gg ∧ s3 = .int .u32 (sum (l.take i) : Int) ∧ s8 = .int .i64 i ∧ w = wr)
  case atStart => exact ⟨0, by omega, by omega, rfl, rfl, rfl⟩
  case round =>
    obtain ⟨i, hi, hg, rfl, rfl, hw_⟩ := hrel
    subst hw_
    by_cases hlt : i < l.length
    · have hltz : (i : Int) < (l.length : Int) := by omega
      obtain ⟨ad, hA, _⟩ := HR.out.2.2 (by omega)
      subst hA
      have hcell := cellB HR.out i hlt
      have ht : l.take (i + 1) = l.take i ++ [l.getD i 0] := by
        rw [List.take_succ_eq_append_getElem hlt, getD_get' l i hlt]
      obtain ⟨c0, c1⟩ := HB.out (l.getD i 0) (by rw [getD_get' l i hlt]; exact List.getElem_mem hlt)
      have hs := sum_lt (l.take i)
      have hstep : sum (l.take (i + 1)) = mix (sum (l.take i)) (l.getD i 0) := by rw [ht, sum_snoc]
      have HS := Aside0.mk hstep
      clear hstep ht
      generalize hh : sum (l.take i) = h at hs HS
      generalize hx : l.getD i 0 = x at hcell c0 c1 HS
      clear hh hx
      go_wp2
      go_roundg (l.length - (i + 1))
      case measure => omega
      case rel =>
        refine ⟨i + 1, by omega, by omega, ?_, by go_num, rfl⟩
        have e1 : Go.bits .xor .u32 (h : Int) x = ((h ^^^ x.toNat : Nat) : Int) := by
          have := xor_u32 h x.toNat hs (by omega)
          rwa [Int.toNat_of_nonneg c0] at this
        show Value.int .u32 (Go.bits .xor .u32 (h : Int) x * 16777619 % 4294967296) = _
        rw [HS.out, e1]
        unfold mix
        first | rfl | (congr 1; done) | (congr 1; omega)
    · have hltz : ¬ (i : Int) < (l.length : Int) := by omega
      obtain rfl : i = l.length := by omega
      go_wp2
      go_ret
      exact ⟨by first | rfl | simp, rfl⟩
end Go.Proofs.Ytmgmdnmfalepkaa.EncA

namespace Go.Proofs.Ytmgmdnmfalepkaa.EncB
open Go.RowKit Go.Proofs.YtmgmdnmfalepkaaW.PrintWords Go.Proofs.YtmgmdnmfalepkaaW.PrintMore Go.Proofs.Ytmgmdnmfalepkaa.Kit Go.Proofs.Ytmgmdnmfalepkaa.PKit Go.Proofs.Ytmgmdnmfalepkaa.Ty Go.Proofs.Ytmgmdnmfalepkaa.PSeg Go.Proofs.Ytmgmdnmfalepkaa.PEnc Go.Proofs.Ytmgmdnmfalepkaa.Build Go.Proofs.Ytmgmdnmfalepkaa.EncA Go.Proofs.Ytmgmdnmfalepkaa.HelpBB
set_option linter.unusedVariables false
theorem nums1 (a : Nat) : EncA.nums [a] = varint a := by simp [EncA.nums]
theorem nums2 (a b : Nat) : EncA.nums [a, b] = varint a ++ varint b := by simp [EncA.nums]
def lastK (K : List Int) (j : Nat) : Int := if j = 0 then 0 else K.getD (j - 1) 0
def lastP (b : Int) (P : List Int) (i : Nat) : Int := if i = 0 then b else P.getD (i - 1) 0
theorem gap_last (K : List Int) (j : Nat) : gap K j = K.getD j 0 - lastK K j := by
  unfold gap lastK
  by_cases h : j = 0
  · subst h; rw [if_pos rfl, if_pos rfl]; omega
  · rw [if_neg h, if_neg h]
theorem del_last (b : Int) (P : List Int) (i : Nat) : del b P i = P.getD i 0 - lastP b P i := by
  unfold del lastP
  by_cases h : i = 0
  · subst h; rw [if_pos rfl, if_pos rfl]
  · rw [if_neg h, if_neg h]
theorem Enc.below {w0 w : World} {ge : Nat} {No : Nat → Prop} {o : List Int} (h : Enc w0 w ge No o) : Below w0.heap.size w0 w := h.2.1
theorem one_number (ge : Nat) (x : Int) (a : Nat) (o : List Int) (w0 w : World) (h : Enc w0 w ge (fun _ => False) o) (hx : x = (a : Int)) (ha : a < 4611686018427387904) (ho : o.length ≤ 1099511627776) :
    Calls Try.prog 144 #[.pointer (some ⟨ge, 0, none⟩), .slice (some ⟨w.heap.size, 0, none⟩) 1 1] (w.alloc (.cells #[.int .i64 x] 3)) fun e w' => e = .returned (.tuple #[]) ∧ Enc w0 w' ge (fun _ => False) (o ++ varint a) := by
  subst hx
  obtain ⟨h1, h2⟩ := h.list (.cells #[.int .i64 (a : Int)] 3)
  refine (numbers_calls ge w.heap.size o [a] w0 _ h1 ((heap_alloc_new w _).trans rfl) h2 (by simpa using ha) (by simp) ho).mono ?_
  rintro e w' ⟨rfl, h3⟩
  rw [nums1] at h3
  exact ⟨rfl, h3.mono (fun _ h => h.elim)⟩
theorem two_numbers (ge : Nat) (x y : Int) (a b : Nat) (o : List Int) (w0 w : World) (h : Enc w0 w ge (fun _ => False) o) (hx : x = (a : Int)) (hy : y = (b : Int)) (ha : a < 4611686018427387904) (hb : b < 4611686018427387904) (ho : o.length ≤ 1099511627776) :
    Calls Try.prog 144 #[.pointer (some ⟨ge, 0, none⟩), .slice (some ⟨w.heap.size, 0, none⟩) 2 2] (w.alloc (.cells #[.int .i64 x, .int .i64 y] 3)) fun e w' => e = .returned (.tuple #[]) ∧ Enc w0 w' ge (fun _ => False) (o ++ (varint a ++ varint b)) := by
  subst hx hy
  obtain ⟨h1, h2⟩ := h.list (.cells #[.int .i64 (a : Int), .int .i64 (b : Int)] 3)
  refine (numbers_calls ge w.heap.size o [a, b] w0 _ h1 ((heap_alloc_new w _).trans rfl) h2 (by simpa using ⟨ha, hb⟩) (by simp) ho).mono ?_
  rintro e w' ⟨rfl, h3⟩
  rw [nums2] at h3
  exact ⟨rfl, h3.mono (fun _ h => h.elim)⟩
theorem four_row (W : World) (g : Nat) (x1 x2 x3 x4 : Int) (h : W.heap[g]? = some (.cells #[.int .u8 x1, .int .u8 x2, .int .u8 x3, .int .u8 x4] 5 (0, 0))) : Kd.C (Kd.int .u8) W (some ⟨g, 0, none⟩) 4 [x1, x2, x3, x4] := by
  obtain ⟨A, c, e, _, hC⟩ := Kd.R_reads (Kd.R_of_own (xs := [x1, x2, x3, x4]) (h1 := fun _ => rfl) (enc := Value.int .u8) (ok := fun _ => True) (base := 0) (w := W) (e := 5) (v := .slice (some ⟨g, 0, none⟩) 4 4) ⟨rfl, .inr ⟨g, 4, _, rfl, Nat.zero_le _, h, by simp, by simp [maxLen], rfl, rfl⟩⟩ (fun _ _ => trivial))
  obtain rfl : some ⟨g, 0, none⟩ = A := by injection e
  exact hC
set_option maxRecDepth 100000 in
set_option maxHeartbeats 4000000 in
theorem encoded_calls (bn : Nat) (ls : List (List Int)) (K : List Int) (Ps : List (List Int)) (A1 A2 A3 : Option Addr) (c1 c2 c3 : Nat) (w : World) (h1 : HelpBB.tBB.K w ls (.slice A1 ls.length c1)) (h2 : HelpI.tI.K w K (.slice A2 K.length c2)) (h3 : HelpII.tII.K w Ps (.slice A3 Ps.length c3))
    (hok : EncOk ((bn : Int), ls, K, Ps)) (hby : Bytes ls) :
    Calls Try.prog 105 #[.agg #[.int .i64 (bn : Int), .slice A1 ls.length c1, .slice A2 K.length c2, .slice A3 Ps.length c3]] w fun e w' => ∃ v', e = .returned v' ∧ HelpB.tB.M w' w.heap.size (fun _ => True) (code ((bn : Int), ls, K, Ps)) v' ∧ Grew w w' := by
  have huI := Try.underlying50
  have huE := Try.underlying154
  have hb1 : (bn : Int) ≤ 1000 := hok.b1
  have hl1 : ls.length ≤ 1000 := hok.l1
  have ht1 : totalB ls ≤ 20000 := hok.t1
  have hk1 : K.length ≤ 20000 := hok.k1
  have HPK := Aside0.mk (show Ps.length = K.length from hok.pk)
  obtain ⟨B1, d1, e1, hc1, hr1⟩ := h1
  obtain ⟨rfl, rfl⟩ : A1 = B1 ∧ c1 = d1 := by injection e1 with q1 q2 q3; exact ⟨q1, q3⟩
  have R1 := Aside0.mk hr1
  clear hc1 hr1 e1
  obtain ⟨B2, d2, e2, hc2, hr2⟩ := h2
  obtain ⟨rfl, rfl⟩ : A2 = B2 ∧ c2 = d2 := by injection e2 with q1 q2 q3; exact ⟨q1, q3⟩
  have R2 := Aside0.mk hr2
  clear hc2 hr2 e2
  obtain ⟨B3, d3, e3, hc3, hr3⟩ := h3
  obtain ⟨rfl, rfl⟩ : A3 = B3 ∧ c3 = d3 := by injection e3 with q1 q2 q3; exact ⟨q1, q3⟩
  have R3 := Aside0.mk hr3
  clear hc3 hr3 e3
  have HOK := Aside0.mk hok
  have HBY := Aside0.mk hby
  clear hok hby
  have HHL := Aside0.mk (head_len (b := (bn : Int)) (ls := ls) hb1 hl1)
  go_enter Try.func105, Try.ntmps105
  go_wp2_with (first | ((with_reducible refine gate_dst (N := 1) rfl ?_); refine box_event ?hg (N := 1) ?hd (cs := #[.int .i64 (bn : Int), .slice A1 ls.length c1, .slice A2 K.length c2, .slice A3 Ps.length c3]) (t := 50) ?hr ?_; (case hd => rfl); (case hg => rfl); (case hr => first | (go_simp; done) | (go_simp; rfl)); intro gs hg_ w1 hbx hbb; have BKs := Aside0.mk hbx; have HB := Aside0.mk hbb; have GS := Aside0.mk (show w.heap.size ≤ gs from Nat.le_of_eq hg_.symm); clear hg_; have hc0 : w1.cell? ⟨gs, 0, none⟩ = some (.int .i64 (bn : Int)) := (blk_cell hbx 0).trans rfl; have fhc0 := blk_frozen hbx 0; have hc1 : w1.cell? ⟨gs, 1, none⟩ = some (.slice A1 ls.length c1) := (blk_cell hbx 1).trans rfl; have fhc1 := blk_frozen hbx 1; have hc2 : w1.cell? ⟨gs, 2, none⟩ = some (.slice A2 K.length c2) := (blk_cell hbx 2).trans rfl; have fhc2 := blk_frozen hbx 2; have hc3 : w1.cell? ⟨gs, 3, none⟩ = some (.slice A3 Ps.length c3) := (blk_cell hbx 3).trans rfl; have fhc3 := blk_frozen hbx 3; clear hbx hbb) | ((with_reducible refine gate_dst (N := 15) rfl ?_); refine box_event ?hg (N := 15) ?hd (cs := #[.slice (some ⟨w1.heap.size, 0, none⟩) 2 2]) (t := 154) ?hr ?_; (case hd => rfl); (case hg => rfl); (case hr => first | (go_simp; done) | (go_simp; rfl)); intro ge hg_ w3 hbx hbb; have BKe := Aside0.mk hbx; have HB3 := Aside0.mk hbb; have GE := Aside0.mk (show w1.heap.size + 1 ≤ ge from by rw [hg_]; simp); clear hg_; have hz0 := blk_below (w := w1.alloc (.cells #[.int .u8 84, .int .u8 71] 5)) (g := gs) (blk_alloc BKs.out _) hbb; have hd0 : w3.cell? ⟨gs, 0, none⟩ = some (.int .i64 (bn : Int)) := (blk_cell hz0 0).trans rfl; have fhd0 := blk_frozen hz0 0; have hd1 : w3.cell? ⟨gs, 1, none⟩ = some (.slice A1 ls.length c1) := (blk_cell hz0 1).trans rfl; have fhd1 := blk_frozen hz0 1; have hd2 : w3.cell? ⟨gs, 2, none⟩ = some (.slice A2 K.length c2) := (blk_cell hz0 2).trans rfl; have fhd2 := blk_frozen hz0 2; have hd3 : w3.cell? ⟨gs, 3, none⟩ = some (.slice A3 Ps.length c3) := (blk_cell hz0 3).trans rfl; have fhd3 := blk_frozen hz0 3; clear hbx hbb))
  have HG := Aside0.mk (show w.heap.size ≤ w1.heap.size from HB.out.size)
  have hrow : w3.heap[w1.heap.size]? = some (.cells #[.int .u8 84, .int .u8 71] 5 (0, 0)) := blk_below (heap_alloc_new w1 _) HB3.out
  have hE0 : Enc w1 w3 ge (fun _ => False) [84, 71] := by
    have hge := GE.out
    exact ⟨by omega, grew_trans (below_alloc (Below.refl _ _) _) HB3.out, some ⟨w1.heap.size, 0, none⟩, 2, BKe.out, Kd.R_of_own (xs := [(84 : Int), 71]) ⟨rfl, .inr ⟨w1.heap.size, 2, #[.int .u8 84, .int .u8 71], rfl, Nat.le_refl _, hrow, by simp, by simp [maxLen], rfl, rfl⟩⟩ (fun k hk => ⟨fun e => by have e1 : w1.heap.size = k := (by simpa [Value.ownBlock] using hk); omega, id⟩)⟩
  clear hrow
  refine (two_numbers ge _ _ bn ls.length [84, 71] w1 w3 hE0 rfl rfl (by omega) (by omega) (by simp)).mono ?_
  rintro e w4 ⟨rfl, hE4⟩
  have eh : [(84 : Int), 71] ++ (varint bn ++ varint ls.length) = head (bn : Int) ls := by simp [head]
  rw [eh] at hE4
  clear eh hE0
  have hbs := blk_below (g := gs) BKs.out (Enc.below hE4)
  have h40 : w4.cell? ⟨gs, 0, none⟩ = some (.int .i64 (bn : Int)) := (blk_cell hbs 0).trans rfl; have fh40 := blk_frozen hbs 0; have h41 : w4.cell? ⟨gs, 1, none⟩ = some (.slice A1 ls.length c1) := (blk_cell hbs 1).trans rfl; have fh41 := blk_frozen hbs 1; have h42 : w4.cell? ⟨gs, 2, none⟩ = some (.slice A2 K.length c2) := (blk_cell hbs 2).trans rfl; have fh42 := blk_frozen hbs 2; have h43 : w4.cell? ⟨gs, 3, none⟩ = some (.slice A3 Ps.length c3) := (blk_cell hbs 3).trans rfl; have fh43 := blk_frozen hbs 3
  clear hbs
  go_wp2
  go_loopg [27] ls.length (fun gg s27 wr => ∃ i : Nat, i ≤ ls.length ∧ ls.length - i ≤ gg ∧ s27 = .int .i64 i ∧ Aside0 (Enc w1 wr ge (fun _ => False) (head (bn : Int) ls ++ flat (line ls) i)))
  case atStart => exact ⟨0, by omega, by omega, rfl, ⟨by have e : flat (line ls) 0 = [] := rfl; rw [e, List.append_nil]; exact hE4⟩⟩
  case round =>
    clear hE4
    obtain ⟨i, hi, hg, rfl, HE⟩ := hrel
    have HW := Aside0.mk (grew_trans HB.out (Enc.below HE.out))
    by_cases hlt : i < ls.length
    · have hltz : (i : Int) < (ls.length : Int) := by omega
      obtain ⟨ad, u, rfl, hcell0, hK⟩ := get_one (d := kB) rfl R1.out [] i hlt
      obtain ⟨A', c', e', hc', hr'⟩ := hK
      obtain rfl : u = .slice A' (ls.getD i []).length c' := by injection e'
      have hcell : wr.cell? (ad.add i) = some (.slice A' (ls.getD i []).length c') := (HW.out.cell (World.block_lt_of_cell? w _ hcell0)).trans hcell0
      have HL := Aside0.mk (Kd.C_below hr' HB.out)
      have hgl := getD_len ls i
      have hll := lines_len HOK.out i (by show i ≤ ls.length; omega)
      have hll' : (head (bn : Int) ls ++ flat (line ls) i).length ≤ 1099511627776 := by have h1 := HHL.out; have h2 : (flat (line ls) i).length ≤ 20010000 := hll; rw [List.length_append]; omega
      have hnext : head (bn : Int) ls ++ flat (line ls) (i + 1) = head (bn : Int) ls ++ flat (line ls) i ++ (varint (ls.getD i []).length ++ ls.getD i []) := by rw [flat_succ, ← List.append_assoc]; rfl
      have HNX := Aside0.mk hnext
      clear hr' e' hcell0 hll hnext
      generalize hx : ls.getD i [] = l at hcell HL hgl HNX hc'
      clear hx
      have hby := bytes_calls ge _ A' c' l w1 wr HE.out HL.out (by omega) hll'
      go_wp2_with (go_at_call 145; refine hby.mono ?_; rintro e w5 ⟨rfl, hE5⟩)
      go_roundg (ls.length - (i + 1))
      case measure => omega
      case rel => exact ⟨i + 1, by omega, by omega, by go_num, ⟨by rw [HNX.out]; exact hE5⟩⟩
    · have hltz : ¬ (i : Int) < (ls.length : Int) := by omega
      obtain rfl : i = ls.length := by omega
      rename World => w6
      have hll := lines_len HOK.out ls.length (Nat.le_refl _)
      have HLL := Aside0.mk (show (head (bn : Int) ls ++ flat (line ls) ls.length).length ≤ 20010020 from by have h1 := HHL.out; have h2 : (flat (line ls) ls.length).length ≤ 20010000 := hll; rw [List.length_append]; omega)
      clear hll
      have hbs := blk_below (g := gs) BKs.out (Enc.below HE.out)
      have h60 : w6.cell? ⟨gs, 0, none⟩ = some (.int .i64 (bn : Int)) := (blk_cell hbs 0).trans rfl; have fh60 := blk_frozen hbs 0; have h61 : w6.cell? ⟨gs, 1, none⟩ = some (.slice A1 ls.length c1) := (blk_cell hbs 1).trans rfl; have fh61 := blk_frozen hbs 1; have h62 : w6.cell? ⟨gs, 2, none⟩ = some (.slice A2 K.length c2) := (blk_cell hbs 2).trans rfl; have fh62 := blk_frozen hbs 2; have h63 : w6.cell? ⟨gs, 3, none⟩ = some (.slice A3 Ps.length c3) := (blk_cell hbs 3).trans rfl; have fh63 := blk_frozen hbs 3
      clear hbs
      go_wp2_with (go_at_call 144; refine (one_number ge _ K.length _ w1 w6 HE.out rfl (by omega) (by have := HLL.out; omega)).mono ?_; rintro e w7 ⟨rfl, hE7⟩; have hbs := blk_below (g := gs) BKs.out (Enc.below hE7); have h70 : w7.cell? ⟨gs, 0, none⟩ = some (.int .i64 (bn : Int)) := (blk_cell hbs 0).trans rfl; have fh70 := blk_frozen hbs 0; have h71 : w7.cell? ⟨gs, 1, none⟩ = some (.slice A1 ls.length c1) := (blk_cell hbs 1).trans rfl; have fh71 := blk_frozen hbs 1; have h72 : w7.cell? ⟨gs, 2, none⟩ = some (.slice A2 K.length c2) := (blk_cell hbs 2).trans rfl; have fh72 := blk_frozen hbs 2; have h73 : w7.cell? ⟨gs, 3, none⟩ = some (.slice A3 Ps.length c3) := (blk_cell hbs 3).trans rfl; have fh73 := blk_frozen hbs 3; clear hbs)
      have hOl : (head (bn : Int) ls ++ flat (line ls) ls.length ++ varint K.length).length ≤ 20010040 := by have h1 := HLL.out; have h2 := varint_len10 (n := K.length) (by omega); rw [List.length_append]; omega
      have HCODE := Aside0.mk (show body ((bn : Int), ls, K, Ps) = head (bn : Int) ls ++ flat (line ls) ls.length ++ varint K.length ++ flat (grp (bn : Int) K Ps) K.length from rfl)
      generalize hO : head (bn : Int) ls ++ flat (line ls) ls.length ++ varint K.length = O at hE7 hOl HCODE
      clear hO
      go_loopg [6, 44] K.length (fun gg s6 s44 wr => ∃ j : Nat, j ≤ K.length ∧ K.length - j ≤ gg ∧ s6 = .int .i64 (lastK K j) ∧ s44 = .int .i64 j ∧ Aside0 (Enc w1 wr ge (fun _ => False) (O ++ flat (grp (bn : Int) K Ps) j)))
      case atStart => exact ⟨0, by omega, by omega, rfl, rfl, ⟨by have e : flat (grp (bn : Int) K Ps) 0 = [] := rfl; rw [e, List.append_nil]; exact hE7⟩⟩
      case round =>
        clear hE7 HE HW
        rename World => w8
        obtain ⟨j, hj, hg, rfl, rfl, HE⟩ := hrel
        have HW := Aside0.mk (grew_trans HB.out (Enc.below HE.out))
        have hgr := grps_len HOK.out j (by show j ≤ K.length; omega)
        have hGl : (O ++ flat (grp (bn : Int) K Ps) j).length ≤ 300000000 := by have h2 : (flat (grp (bn : Int) K Ps) j).length ≤ 180360000 := hgr; rw [List.length_append]; omega
        clear hgr
        by_cases hlt : j < K.length
        · have hltz : (j : Int) < (K.length : Int) := by omega
          have hltp : j < Ps.length := by have := HPK.out; omega
          have hltpz : (j : Int) < (Ps.length : Int) := by omega
          obtain ⟨ad2, u2, rfl, hc20, hK2⟩ := get_one (d := Kd.int .i64) rfl R2.out 0 j hlt
          obtain rfl : u2 = .int .i64 (K.getD j 0) := by have h : [u2] = [Value.int .i64 (K.getD j 0)] := hK2; injection h
          have hc2 : w8.cell? (ad2.add j) = some (.int .i64 (K.getD j 0)) := (HW.out.cell (World.block_lt_of_cell? w _ hc20)).trans hc20
          obtain ⟨ad3, u3, rfl, hc30, hK3⟩ := get_one (d := HelpII.kI) rfl R3.out [] j hltp
          obtain ⟨A', c', e', hc', hr'⟩ := hK3
          obtain rfl : u3 = .slice A' (Ps.getD j []).length c' := by injection e'
          have hc3 : w8.cell? (ad3.add j) = some (.slice A' (Ps.getD j []).length c') := (HW.out.cell (World.block_lt_of_cell? w _ hc30)).trans hc30
          have HC3 := Aside0.mk hc30
          have HLP := Aside0.mk hr'
          have hp1 : (Ps.getD j []).length ≤ 1000 := HOK.out.p1 j
          obtain ⟨g0, g1⟩ := HOK.out.g1 j hlt
          have g0 : 0 ≤ gap K j := g0
          have g1 : gap K j ≤ 16777216 := g1
          have HD := Aside0.mk (show ∀ i, i < (Ps.getD j []).length → 0 ≤ del (bn : Int) (Ps.getD j []) i ∧ del (bn : Int) (Ps.getD j []) i ≤ 1000 from fun i hi => HOK.out.d1 j i hlt hi)
          have HGRP := Aside0.mk (show O ++ flat (grp (bn : Int) K Ps) (j + 1) = O ++ flat (grp (bn : Int) K Ps) j ++ (varint (gap K j).toNat ++ varint (Ps.getD j []).length) ++ dels (bn : Int) (Ps.getD j []) (Ps.getD j []).length from by rw [flat_succ, ← List.append_assoc, ← List.append_assoc]; show _ ++ (varint _ ++ varint _ ++ dels _ _ _) = _; simp only [List.append_assoc])
          have HLK := Aside0.mk (show lastK K (j + 1) = K.getD j 0 from by simp [lastK])
          have hgl := gap_last K j
          clear hr' e' hc' hc20 hc30
          obtain ⟨g, hgn⟩ : ∃ g : Nat, gap K j = (g : Int) := ⟨(gap K j).toNat, by omega⟩
          rw [hgn] at g0 g1 hgl HGRP
          rw [Int.toNat_natCast] at HGRP
          clear hgn
          generalize hO2 : O ++ flat (grp (bn : Int) K Ps) j = O2 at HE hGl HGRP
          clear hO2
          generalize hkj : K.getD j 0 = kj at hc2 hgl HLK
          clear hkj
          have hgl2 : 0 ≤ kj - lastK K j ∧ kj - lastK K j ≤ 16777216 := by omega
          generalize hlk : lastK K j = lk at hgl hgl2
          clear hlk
          generalize hP : Ps.getD j [] = P at hc3 HC3 HLP hp1 HD HGRP
          clear hP
          have h2n := two_numbers ge (kj - lk) (P.length : Int) g P.length O2 w1 w8 HE.out (by omega) rfl (by omega) (by omega) (by omega)
          have hbs := blk_below (g := gs) BKs.out (Enc.below HE.out)
          have h80 : w8.cell? ⟨gs, 0, none⟩ = some (.int .i64 (bn : Int)) := (blk_cell hbs 0).trans rfl; have fh80 := blk_frozen hbs 0; have h81 : w8.cell? ⟨gs, 1, none⟩ = some (.slice A1 ls.length c1) := (blk_cell hbs 1).trans rfl; have fh81 := blk_frozen hbs 1; have h82 : w8.cell? ⟨gs, 2, none⟩ = some (.slice (some ad2) K.length c2) := (blk_cell hbs 2).trans rfl; have fh82 := blk_frozen hbs 2; have h83 : w8.cell? ⟨gs, 3, none⟩ = some (.slice (some ad3) Ps.length c3) := (blk_cell hbs 3).trans rfl; have fh83 := blk_frozen hbs 3
          clear hbs
          go_wp2_with (go_at_call 144; refine h2n.mono ?_; rintro e w9 ⟨rfl, hE9⟩; have hbs := blk_below (g := gs) BKs.out (Enc.below hE9); have h90 : w9.cell? ⟨gs, 0, none⟩ = some (.int .i64 (bn : Int)) := (blk_cell hbs 0).trans rfl; have fh90 := blk_frozen hbs 0; have h91 : w9.cell? ⟨gs, 1, none⟩ = some (.slice A1 ls.length c1) := (blk_cell hbs 1).trans rfl; have fh91 := blk_frozen hbs 1; have h92 : w9.cell? ⟨gs, 2, none⟩ = some (.slice (some ad2) K.length c2) := (blk_cell hbs 2).trans rfl; have fh92 := blk_frozen hbs 2; have h93 : w9.cell? ⟨gs, 3, none⟩ = some (.slice (some ad3) Ps.length c3) := (blk_cell hbs 3).trans rfl; have fh93 := blk_frozen hbs 3; clear hbs; have hc9 : w9.cell? (ad3.add j) = some (.slice A' P.length c') := ((grew_trans HB.out (Enc.below hE9)).cell (World.block_lt_of_cell? w _ HC3.out)).trans HC3.out)
          have hl9 : (O2 ++ (varint g ++ varint P.length)).length ≤ 300000020 := by have h1 := varint_len10 (n := g) (by omega); have h2 := varint_len10 (n := P.length) (by omega); simp only [List.length_append]; omega
          generalize hO3 : O2 ++ (varint g ++ varint P.length) = O3 at hE9 hl9 HGRP
          clear hO3
          go_loopg [9, 70] P.length (fun gg s9 s70 wr => ∃ i : Nat, i ≤ P.length ∧ P.length - i ≤ gg ∧ s9 = .int .i64 (lastP (bn : Int) P i) ∧ s70 = .int .i64 i ∧ Aside0 (Enc w1 wr ge (fun _ => False) (O3 ++ dels (bn : Int) P i)))
          case atStart => exact ⟨0, by omega, by omega, rfl, rfl, ⟨by have e : dels (bn : Int) P 0 = [] := rfl; rw [e, List.append_nil]; exact hE9⟩⟩
          case round =>
            clear hE9
            rename World => wi
            obtain ⟨i, hi, hgi, rfl, rfl, HEi⟩ := hrel
            by_cases hli : i < P.length
            · have hliz : (i : Int) < (P.length : Int) := by omega
              obtain ⟨ad4, u4, rfl, hc40, hK4⟩ := get_one (d := Kd.int .i64) rfl HLP.out 0 i hli
              obtain rfl : u4 = .int .i64 (P.getD i 0) := by have h : [u4] = [Value.int .i64 (P.getD i 0)] := hK4; injection h
              have hc4 : wi.cell? (ad4.add i) = some (.int .i64 (P.getD i 0)) := ((grew_trans HB.out (Enc.below HEi.out)).cell (World.block_lt_of_cell? w _ hc40)).trans hc40
              obtain ⟨d0, d1⟩ := HD.out i hli
              have hdl := del_last (bn : Int) P i
              have hdn : dels (bn : Int) P (i + 1) = dels (bn : Int) P i ++ varint (del (bn : Int) P i).toNat := flat_succ _ _
              have HLP2 := Aside0.mk (show lastP (bn : Int) P (i + 1) = P.getD i 0 from by simp [lastP])
              have hdll := dels_len (b := (bn : Int)) (P := P) (n := i) (fun q hq => (HD.out q (by omega)).2)
              obtain ⟨g', hgn'⟩ : ∃ g : Nat, del (bn : Int) P i = (g : Int) := ⟨(del (bn : Int) P i).toNat, by omega⟩
              rw [hgn'] at d0 d1 hdl hdn
              rw [Int.toNat_natCast] at hdn
              have HDN := Aside0.mk hdn
              clear hdn hgn' hc40
              have hdl2 : 0 ≤ P.getD i 0 - lastP (bn : Int) P i ∧ P.getD i 0 - lastP (bn : Int) P i ≤ 1000 := by omega
              generalize hxi : P.getD i 0 = xi at hc4 hdl hdl2 HLP2
              clear hxi
              generalize hlp : lastP (bn : Int) P i = lp at hdl hdl2
              clear hlp
              have h1n := one_number ge (xi - lp) g' (O3 ++ dels (bn : Int) P i) w1 wi HEi.out (by omega) (by omega) (by rw [List.length_append]; omega)
              go_wp2_with (go_at_call 144; refine h1n.mono ?_; rintro e w9' ⟨rfl, hE9⟩)
              go_roundg (P.length - (i + 1))
              case measure => omega
              case rel => exact ⟨i + 1, by omega, by omega, by rw [HLP2.out], by go_num, ⟨by rw [HDN.out, ← List.append_assoc]; exact hE9⟩⟩
            · have hliz : ¬ (i : Int) < (P.length : Int) := by omega
              obtain rfl : i = P.length := by omega
              go_wp2
              go_roundg (K.length - (j + 1))
              case measure => omega
              case rel => exact ⟨j + 1, by omega, by omega, by rw [HLK.out], by go_num, ⟨by rw [HGRP.out]; exact HEi.out⟩⟩
        · have hltz : ¬ (j : Int) < (K.length : Int) := by omega
          obtain rfl : j = K.length := by omega
          have hcode := HCODE.out
          have hEl := HE.out
          rw [← hcode] at hEl hGl
          clear hcode HCODE HE
          have hbyt := body_bytes ((bn : Int), ls, K, Ps) HBY.out
          have HCD := Aside0.mk (show code ((bn : Int), ls, K, Ps) = body ((bn : Int), ls, K, Ps) ++ four (sum (body ((bn : Int), ls, K, Ps))) from rfl)
          generalize hbd : body ((bn : Int), ls, K, Ps) = bd at hEl hGl hbyt HCD
          clear hbd
          obtain ⟨hge0, hBe, Ao, co, hbe, hRe⟩ := hEl
          obtain ⟨Ax, cx, ex, hcx, hCx⟩ := Kd.R_reads hRe
          obtain ⟨rfl, rfl⟩ : Ao = Ax ∧ co = cx := by injection ex with q1 q2 q3; exact ⟨q1, q3⟩
          have hsum := sum_calls Ao co bd w8 hCx hbyt (by omega)
          have hcg : w8.cell? ⟨ge, 0, none⟩ = some (.slice Ao bd.length co) := (blk_cell hbe 0).trans rfl
          have hfg := blk_frozen hbe 0
          have HRE := Aside0.mk (Kd.R_mono hRe (ok' := fun _ => True) (fun _ _ => trivial))
          have HBE := Aside0.mk hBe
          have HSL := Aside0.mk (sum_lt bd)
          clear hCx hRe hBe hbe hbyt ex hcx
          generalize hss : sum bd = hs at hsum HCD HSL
          clear hss
          go_wp2_with (first | (go_at_call 146; refine hsum.mono ?_; rintro e w' ⟨rfl, hw_⟩; subst w') | (at_builtin; refine Kd.R_append_rows (Kd.int .u8) (Rr := (Kd.int .u8).K (w8.alloc _)) (w0 := w1) w1.heap.size rfl (.tmp 91) (.tmp 103) 33 5 (.int .u8 0) 1 rfl Try.underlying33 infoB rfl (by decide) (by decide) (.slice Ao bd.length co) bd _ (some ⟨w8.heap.size, 0, none⟩) 4 4 (fun _ => True) (fun _ => False) rfl rfl (Kd.R_alloc HRE.out _) (four_row _ w8.heap.size _ _ _ _ (heap_alloc_new w8 _)) (fun x cs h => h) (fun _ h => h.elim) (fun _ _ => trivial) (below_alloc HBE.out _) (by have := HBE.out.size; simp; omega) (by omega) ?_; rintro v1 w11 hR1 hB1 hg1 hat1))
          go_ret
          refine ⟨v1, rfl, ?_, grew_trans HB.out hB1⟩
          rw [HCD.out]
          have hsl := HSL.out
          have hR2 : Kd.R (Kd.int .u8) 5 w11 w1.heap.size (fun _ => True) v1 (bd ++ four hs) := by
            refine cast (congrArg (fun q => Kd.R (Kd.int .u8) 5 w11 w1.heap.size (fun _ => True) v1 (bd ++ q)) ?_) hR1
            unfold four
            congr 1 <;> first | rfl | omega | skip
          exact Kd.R_lower hR2 HG.out
end Go.Proofs.Ytmgmdnmfalepkaa.EncB
