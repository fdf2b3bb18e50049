/- Parts of the proof (see the row's own text): PEnc, PSum, Lsame, Lencs, PVal, PDec. -/
import Derived.Test.YtmgmdnmfalepkaaG10
import Derived.Test.YtmgmdnmfalepkaaG11
import Derived.Laws.BitsLemmas
import Derived.Test.YtmgmdnmfalepkaaG4
import Derived.Test.YtmgmdnmfalepkaaG8
import Derived.Test.YtmgmdnmfalepkaaG9
import Derived.Test.YtmgmdnmfalepkaaG6
namespace Go.Proofs.Ytmgmdnmfalepkaa.PEnc
open Go.RowKit Go.Proofs.YtmgmdnmfalepkaaW.PrintWords Go.Proofs.Ytmgmdnmfalepkaa.PKit Go.Proofs.Ytmgmdnmfalepkaa.POrd Go.Proofs.Ytmgmdnmfalepkaa.PTri Go.Proofs.Ytmgmdnmfalepkaa.PSeg Go.Proofs.Ytmgmdnmfalepkaa.L Go.Proofs.Ytmgmdnmfalepkaa.HelpBB
set_option linter.unusedVariables false
def varint (n : Nat) : List Int := if h : n < 128 then [(n : Int)] else ((n % 128 + 128 : Nat) : Int) :: varint (n / 128)
termination_by n
decreasing_by omega
theorem varint_lt {n : Nat} (h : n < 128) : varint n = [(n : Int)] := by rw [varint, dif_pos h]
theorem varint_ge {n : Nat} (h : ¬ n < 128) : varint n = ((n % 128 + 128 : Nat) : Int) :: varint (n / 128) := by
  conv => lhs; rw [varint]
  rw [dif_neg h]
theorem varint_len : ∀ (k n : Nat), n < 128 ^ (k + 1) → (varint n).length ≤ k + 1 := by
  intro k
  induction k with
  | zero =>
    intro n hn
    rw [varint_lt (by simpa using hn)]
    simp
  | succ k ih =>
    intro n hn
    by_cases h : n < 128
    · rw [varint_lt h]
      simp
    · rw [varint_ge h]
      have := ih (n / 128) (by rw [Nat.div_lt_iff_lt_mul (by decide)]; rw [Nat.pow_succ] at hn; exact hn)
      simp only [List.length_cons]
      omega
theorem varint_len10 {n : Nat} (h : n < 4611686018427387904) : (varint n).length ≤ 9 := varint_len 8 n (by omega)
theorem varint_bytes (n : Nat) : ∀ x ∈ varint n, 0 ≤ x ∧ x ≤ 255 := by
  induction n using Nat.strongRecOn with
  | _ n ih =>
    intro x hx
    by_cases h : n < 128
    · rw [varint_lt h] at hx
      rw [List.mem_singleton.1 hx]
      omega
    · rw [varint_ge h] at hx
      rcases List.mem_cons.1 hx with e | hx
      · rw [e]
        omega
      · exact ih (n / 128) (by omega) x hx
theorem varint_ev : ∀ (n : Nat), n < 4611686018427387904 → Ev (fun k => spec_l4varint.f k (n : Int)) (varint n) := by
  intro n
  induction n using Nat.strongRecOn with
  | _ n ih =>
    intro hn
    by_cases h : n < 128
    · rw [varint_lt h]
      refine Ev.step (f := fun _ => some [(n : Int)]) (fun k => ?_) (Ev.now _)
      simp only [spec_l4varint.f]
      rw [if_pos (by omega)]
      congr 2
      omega
    · have hd : wrap64 (Int.tdiv (n : Int) 128) = ((n / 128 : Nat) : Int) := by
        rw [wrap_in (by have h1 : Int.tdiv (n : Int) 128 = ((n / 128 : Nat) : Int) := rfl; rw [h1]; omega)]
        rfl
      have hm : wrap64 (Int.tmod (n : Int) 128 + 128) = ((n % 128 + 128 : Nat) : Int) := by
        have h1 : Int.tmod (n : Int) 128 = ((n % 128 : Nat) : Int) := rfl
        rw [h1, wrap_in (by omega)]
        omega
      have hl := varint_len10 (n := n / 128) (by omega)
      rw [varint_ge h]
      refine Ev.step (f := fun k => (spec_l4varint.f k ((n / 128 : Nat) : Int)).bind fun t330 => (if [((n % 128 + 128 : Nat) : Int)].length + t330.length < 140737488355328 then (some ([((n % 128 + 128 : Nat) : Int)] ++ t330)) else none)) (fun k => ?_) (Ev.bind (ih (n / 128) (by omega) (by omega)) ?_)
      · simp only [spec_l4varint.f]
        rw [if_neg (by omega), hm, hd, Option.bind_some, show ((n % 128 + 128 : Nat) : Int) % 256 = ((n % 128 + 128 : Nat) : Int) by omega]
      · refine Ev.congr (f := fun _ => some _) (fun k => ?_) (Ev.now _)
        rw [if_pos (by simp only [List.length_singleton]; omega)]
        rfl
def gap (K : List Int) (j : Nat) : Int := if j = 0 then K.getD 0 0 else K.getD j 0 - K.getD (j - 1) 0
def del (b : Int) (P : List Int) (i : Nat) : Int := if i = 0 then P.getD 0 0 - b else P.getD i 0 - P.getD (i - 1) 0
def flat (f : Nat → List Int) (n : Nat) : List Int := (List.range n).flatMap f
theorem flat_succ (f : Nat → List Int) (n : Nat) : flat f (n + 1) = flat f n ++ f n := by simp [flat, List.range_succ]
theorem flat_len {f : Nat → List Int} {m : Nat} : ∀ n, (∀ i, i < n → (f i).length ≤ m) → (flat f n).length ≤ n * m := by
  intro n
  induction n with
  | zero => intro _; simp [flat]
  | succ n ih =>
    intro h
    rw [flat_succ, List.length_append, Nat.add_mul]
    have h1 := ih (fun i hi => h i (by omega))
    have h2 := h n (by omega)
    omega
def line (ls : List (List Int)) (i : Nat) : List Int := varint (ls.getD i []).length ++ ls.getD i []
def dels (b : Int) (P : List Int) (n : Nat) : List Int := flat (fun i => varint (del b P i).toNat) n
def grp (b : Int) (K : List Int) (Ps : List (List Int)) (j : Nat) : List Int := varint (gap K j).toNat ++ varint (Ps.getD j []).length ++ dels b (Ps.getD j []) (Ps.getD j []).length
def head (b : Int) (ls : List (List Int)) : List Int := [84, 71] ++ varint b.toNat ++ varint ls.length
def body (s : SegT) : List Int := head s.1 s.2.1 ++ flat (line s.2.1) s.2.1.length ++ varint s.2.2.1.length ++ flat (grp s.1 s.2.2.1 s.2.2.2) s.2.2.1.length
structure EncOk (s : SegT) : Prop where
  b0 : 0 ≤ s.1
  b1 : s.1 ≤ 1000
  l1 : s.2.1.length ≤ 1000
  t1 : totalB s.2.1 ≤ 20000
  k1 : s.2.2.1.length ≤ 20000
  pk : s.2.2.2.length = s.2.2.1.length
  p1 : ∀ j, (s.2.2.2.getD j []).length ≤ 1000
  g1 : ∀ j, j < s.2.2.1.length → 0 ≤ gap s.2.2.1 j ∧ gap s.2.2.1 j ≤ 16777216
  d1 : ∀ j i, j < s.2.2.1.length → i < (s.2.2.2.getD j []).length → 0 ≤ del s.1 (s.2.2.2.getD j []) i ∧ del s.1 (s.2.2.2.getD j []) i ≤ 1000
  kb : ∀ j, -9223372036854775808 ≤ s.2.2.1.getD j 0 ∧ s.2.2.1.getD j 0 ≤ 9223372036854775807
theorem line_len (ls : List (List Int)) (i : Nat) (h : totalB ls ≤ 20000) : (line ls i).length ≤ 20010 := by
  have h1 := getD_len ls i
  have h2 := varint_len10 (n := (ls.getD i []).length) (by omega)
  unfold line
  rw [List.length_append]
  omega
theorem dels_len {b : Int} {P : List Int} {n : Nat} (h : ∀ i, i < n → del b P i ≤ 1000) : (dels b P n).length ≤ n * 9 :=
  flat_len n (fun i hi => varint_len10 (by have := h i hi; omega))
theorem head_len {b : Int} {ls : List (List Int)} (h : b ≤ 1000) (h2 : ls.length ≤ 1000) : (head b ls).length ≤ 20 := by
  have h3 := varint_len10 (n := b.toNat) (by omega)
  have h4 := varint_len10 (n := ls.length) (by omega)
  unfold head
  simp only [List.length_append, List.length_cons, List.length_nil]
  omega
theorem grp_len {s : SegT} (h : EncOk s) (j : Nat) (hj : j < s.2.2.1.length) : (grp s.1 s.2.2.1 s.2.2.2 j).length ≤ 9018 := by
  have h1 := varint_len10 (n := (gap s.2.2.1 j).toNat) (by have := (h.g1 j hj).2; omega)
  have h2 := varint_len10 (n := (s.2.2.2.getD j []).length) (by have := h.p1 j; omega)
  have h3 := dels_len (b := s.1) (P := s.2.2.2.getD j []) (n := (s.2.2.2.getD j []).length) (fun i hi => (h.d1 j i hj hi).2)
  have h4 := h.p1 j
  unfold grp
  simp only [List.length_append]
  omega
theorem lines_len {s : SegT} (h : EncOk s) (i : Nat) (hi : i ≤ s.2.1.length) : (flat (line s.2.1) i).length ≤ 20010000 := by
  have h1 := flat_len (f := line s.2.1) i (fun j _ => line_len s.2.1 j h.t1)
  have h2 := h.l1
  have h3 : i * 20010 ≤ 1000 * 20010 := Nat.mul_le_mul_right _ (by omega)
  omega
theorem grps_len {s : SegT} (h : EncOk s) (j : Nat) (hj : j ≤ s.2.2.1.length) : (flat (grp s.1 s.2.2.1 s.2.2.2) j).length ≤ 180360000 := by
  have h1 := flat_len (f := grp s.1 s.2.2.1 s.2.2.2) (m := 9018) j (fun i hi => grp_len h i (by omega))
  have h2 := h.k1
  have h3 : j * 9018 ≤ 20000 * 9018 := Nat.mul_le_mul_right _ (by omega)
  omega
theorem body_ev (s : SegT) (h : EncOk s) : Ev (fun k => spec_l4body.f k s.1 s.2.1 s.2.2.1 s.2.2.2) (body s) := by
  obtain ⟨b, ls, K, Ps⟩ := s
  have hb0 : 0 ≤ b := h.b0
  have hb1 : b ≤ 1000 := h.b1
  have hl1 : ls.length ≤ 1000 := h.l1
  have ht1 : totalB ls ≤ 20000 := h.t1
  have hk1 : K.length ≤ 20000 := h.k1
  have hpk : Ps.length = K.length := h.pk
  have hhl : (head b ls).length ≤ 20 := head_len hb1 hl1
  have rdL : ∀ i : Nat, rd_L1 ls (i : Int) = ls.getD i [] := fun i => rfl
  have rdP : ∀ i : Nat, rd_L3 Ps (i : Int) = Ps.getD i [] := fun i => rfl
  have hll : (flat (line ls) ls.length).length ≤ 20010000 := lines_len h ls.length (Nat.le_refl _)
  have hkl := varint_len10 (n := K.length) (by omega)
  have L2 : ∀ (j : Nat) (o : List Int), j < K.length → o.length ≤ 300000000 → Ev (fun k => spec_l4body.l1 k (o ++ dels b (Ps.getD j []) (Ps.getD j []).length) ((j + 1 : Nat) : Int) b ls K Ps) (body (b, ls, K, Ps)) →
      ∀ (d i : Nat), i + d = (Ps.getD j []).length → Ev (fun k => spec_l4body.l2 k (o ++ dels b (Ps.getD j []) i) (j : Int) (i : Int) b ls K Ps) (body (b, ls, K, Ps)) := by
    intro j o hj ho hnext d
    have hp1 : (Ps.getD j []).length ≤ 1000 := h.p1 j
    have hd1 : ∀ i, i < (Ps.getD j []).length → 0 ≤ del b (Ps.getD j []) i ∧ del b (Ps.getD j []) i ≤ 1000 := fun i hi => h.d1 j i hj hi
    have hrd := rdP j
    generalize Ps.getD j [] = P at hnext hp1 hd1 hrd ⊢
    induction d with
    | zero =>
      intro i hd
      obtain rfl : i = P.length := by omega
      refine Ev.step (fun k => ?_) hnext
      simp only [spec_l4body.l2]
      rw [if_pos (by omega), if_pos (by omega), hrd, if_neg (by omega), wrap_succ j (by omega)]
    | succ d ih =>
      intro i hd
      have hr := ih (i + 1) (by omega)
      have hsucc : dels b P (i + 1) = dels b P i ++ varint (del b P i).toNat := flat_succ _ _
      obtain ⟨d0, d1⟩ := hd1 i (by omega)
      have hv := varint_ev (del b P i).toNat (by omega)
      rw [Int.toNat_of_nonneg d0] at hv
      have hvl := varint_len10 (n := (del b P i).toNat) (by omega)
      have hdl := dels_len (b := b) (P := P) (n := i) (fun q hq => (hd1 q (by omega)).2)
      have hcond : (o ++ dels b P i).length + (varint (del b P i).toNat).length < 140737488355328 := by rw [List.length_append]; omega
      rw [hsucc, ← List.append_assoc] at hr
      by_cases h0 : i = 0
      · subst h0
        have hdel : del b P 0 = P.getD 0 0 - b := rfl
        rw [hdel] at hv d0 d1 hcond hr
        refine Ev.step (f := fun k => (spec_l4varint.f k (P.getD 0 0 - b)).bind fun t397 => (if (o ++ dels b P 0).length + t397.length < 140737488355328 then (spec_l4body.l2 k ((o ++ dels b P 0) ++ t397) (j : Int) ((0 + 1 : Nat) : Int) b ls K Ps) else none)) (fun k => ?_) (Ev.bind hv (Ev.congr (fun k => if_pos hcond) hr))
        simp only [spec_l4body.l2]
        rw [if_pos (by omega), if_pos (by omega), hrd, if_pos (by omega), if_neg (by omega), if_pos (by omega), rd_at, wrap_in (by omega), wrap_succ 0 (by omega)]
      · have hdel : del b P i = P.getD i 0 - P.getD (i - 1) 0 := if_neg h0
        rw [hdel] at hv d0 d1 hcond hr
        have hw : wrap64 ((i : Int) - 1) = ((i - 1 : Nat) : Int) := by rw [wrap_in (by omega)]; omega
        refine Ev.step (f := fun k => (spec_l4varint.f k (P.getD i 0 - P.getD (i - 1) 0)).bind fun t389 => (if (o ++ dels b P i).length + t389.length < 140737488355328 then (spec_l4body.l2 k ((o ++ dels b P i) ++ t389) (j : Int) ((i + 1 : Nat) : Int) b ls K Ps) else none)) (fun k => ?_) (Ev.bind hv (Ev.congr (fun k => if_pos hcond) hr))
        simp only [spec_l4body.l2]
        rw [if_pos (by omega), if_pos (by omega), hrd, if_pos (by omega), if_pos (by omega), hw, if_pos (by omega), if_pos (by omega), if_pos (by omega), rd_at, rd_at, wrap_in (by omega), wrap_succ i (by omega)]
  have L1 : ∀ (d j : Nat), j + d = K.length → Ev (fun k => spec_l4body.l1 k (head b ls ++ flat (line ls) ls.length ++ varint K.length ++ flat (grp b K Ps) j) (j : Int) b ls K Ps) (body (b, ls, K, Ps)) := by
    intro d
    induction d with
    | zero =>
      intro j hd
      obtain rfl : j = K.length := by omega
      refine Ev.step (f := fun _ => some (body (b, ls, K, Ps))) (fun k => ?_) (Ev.now _)
      simp only [spec_l4body.l1]
      rw [if_neg (by omega)]
      rfl
    | succ d ih =>
      intro j hd
      have hj : j < K.length := by omega
      obtain ⟨g0, g1⟩ := h.g1 j hj
      have g0 : 0 ≤ gap K j := g0
      have g1 : gap K j ≤ 16777216 := g1
      have hgl : (flat (grp b K Ps) j).length ≤ 180360000 := grps_len h j (by show j ≤ K.length; omega)
      have hp1 : (Ps.getD j []).length ≤ 1000 := h.p1 j
      have hv1 := varint_ev (gap K j).toNat (by omega)
      rw [Int.toNat_of_nonneg g0] at hv1
      have hv2 := varint_ev (Ps.getD j []).length (by omega)
      have hl1' := varint_len10 (n := (gap K j).toNat) (by omega)
      have hl2' := varint_len10 (n := (Ps.getD j []).length) (by omega)
      generalize hO : head b ls ++ flat (line ls) ls.length ++ varint K.length ++ flat (grp b K Ps) j = O
      have hOl : O.length ≤ 250000000 := by rw [← hO]; simp only [List.length_append]; omega
      have hnext := ih (j + 1) (by omega)
      rw [flat_succ, ← List.append_assoc, hO] at hnext
      have hg : grp b K Ps j = varint (gap K j).toNat ++ varint (Ps.getD j []).length ++ dels b (Ps.getD j []) (Ps.getD j []).length := rfl
      rw [hg] at hnext
      have hin := L2 j (O ++ varint (gap K j).toNat ++ varint (Ps.getD j []).length) hj (by simp only [List.length_append]; omega) (by
        have e1 : O ++ varint (gap K j).toNat ++ varint (Ps.getD j []).length ++ dels b (Ps.getD j []) (Ps.getD j []).length = O ++ (varint (gap K j).toNat ++ varint (Ps.getD j []).length ++ dels b (Ps.getD j []) (Ps.getD j []).length) := by simp only [List.append_assoc]
        rw [e1]
        exact hnext) (Ps.getD j []).length 0 (by omega)
      have hd0 : dels b (Ps.getD j []) 0 = [] := rfl
      rw [hd0, List.append_nil] at hin
      have J2 : Ev (fun k => spec_l4body.j2 k O (j : Int) (gap K j) b ls K Ps) (body (b, ls, K, Ps)) := by
        refine Ev.step (f := fun k => (spec_l4varint.f k (gap K j)).bind fun t371 => (if O.length + t371.length < 140737488355328 then ((spec_l4varint.f k ((Ps.getD j []).length : Int)).bind fun t378 => (if (O ++ t371).length + t378.length < 140737488355328 then (spec_l4body.l2 k ((O ++ t371) ++ t378) (j : Int) ((0 : Nat) : Int) b ls K Ps) else none)) else none)) (fun k => ?_) (Ev.bind hv1 (Ev.congr (fun k => if_pos (by omega)) (Ev.bind hv2 (Ev.congr (fun k => if_pos (by rw [List.length_append]; omega)) hin))))
        simp only [spec_l4body.j2, Option.bind_some]
        simp only [show (0 : Int) ≤ (j : Int) from by omega, show (j : Int) < (Ps.length : Int) from by omega, if_true, rdP]
        rfl
      by_cases h0 : j = 0
      · subst h0
        refine Ev.step (fun k => ?_) J2
        simp only [spec_l4body.l1]
        rw [if_pos (by omega), if_pos (by omega), if_neg (by omega), rd_at]
        rfl
      · have hgap : gap K j = K.getD j 0 - K.getD (j - 1) 0 := if_neg h0
        have hw : wrap64 ((j : Int) - 1) = ((j - 1 : Nat) : Int) := by rw [wrap_in (by omega)]; omega
        refine Ev.step (fun k => ?_) J2
        simp only [spec_l4body.l1]
        rw [if_pos (by omega), if_pos (by omega), if_pos (by omega), hw, if_pos (by omega), if_pos (by omega), rd_at, rd_at, ← hgap, wrap_in (by omega)]
  have L0 : ∀ (d i : Nat), i + d = ls.length → Ev (fun k => spec_l4body.l0 k (head b ls ++ flat (line ls) i) (i : Int) b ls K Ps) (body (b, ls, K, Ps)) := by
    intro d
    induction d with
    | zero =>
      intro i hd
      obtain rfl : i = ls.length := by omega
      have h1 := L1 K.length 0 (by omega)
      have hf0 : flat (grp b K Ps) 0 = [] := rfl
      rw [hf0, List.append_nil] at h1
      refine Ev.step (f := fun k => (spec_l4varint.f k (K.length : Int)).bind fun t363 => (if (head b ls ++ flat (line ls) ls.length).length + t363.length < 140737488355328 then (spec_l4body.l1 k ((head b ls ++ flat (line ls) ls.length) ++ t363) ((0 : Nat) : Int) b ls K Ps) else none)) (fun k => ?_) (Ev.bind (varint_ev K.length (by omega)) (Ev.congr (fun k => if_pos (by rw [List.length_append]; omega)) h1))
      simp only [spec_l4body.l0]
      rw [if_neg (by omega)]
      rfl
    | succ d ih =>
      intro i hd
      have hfl : (flat (line ls) i).length ≤ 20010000 := lines_len h i (by show i ≤ ls.length; omega)
      have hil := getD_len ls i
      have hvl := varint_len10 (n := (ls.getD i []).length) (by omega)
      have hr := ih (i + 1) (by omega)
      have hline : line ls i = varint (ls.getD i []).length ++ ls.getD i [] := rfl
      rw [flat_succ, ← List.append_assoc, hline, ← List.append_assoc] at hr
      generalize hO : head b ls ++ flat (line ls) i = O at hr ⊢
      have hOl : O.length ≤ 20010020 := by rw [← hO, List.length_append]; omega
      refine Ev.step (f := fun k => (spec_l4varint.f k ((ls.getD i []).length : Int)).bind fun t353 => (if O.length + t353.length < 140737488355328 then (if (O ++ t353).length + (ls.getD i []).length < 140737488355328 then (spec_l4body.l0 k ((O ++ t353) ++ ls.getD i []) ((i + 1 : Nat) : Int) b ls K Ps) else none) else none)) (fun k => ?_) (Ev.bind (varint_ev (ls.getD i []).length (by omega)) (Ev.congr (fun k => if_pos (by omega)) (Ev.congr (fun k => if_pos (by rw [List.length_append]; omega)) hr)))
      simp only [spec_l4body.l0, Option.bind_some]
      rw [if_pos (by omega), if_pos (by omega), rdL, wrap_succ i (by omega)]
  have h0 := L0 ls.length 0 (by omega)
  have hf0 : flat (line ls) 0 = [] := rfl
  rw [hf0, List.append_nil] at h0
  have hv1 := varint_ev b.toNat (by omega)
  rw [Int.toNat_of_nonneg hb0] at hv1
  have hl1' := varint_len10 (n := b.toNat) (by omega)
  have hl2' := varint_len10 (n := ls.length) (by omega)
  show Ev (fun k => spec_l4body.f k b ls K Ps) _
  refine Ev.congr (f := fun k => (spec_l4varint.f k b).bind fun t340 => (if [(84 : Int), 71].length + t340.length < 140737488355328 then ((spec_l4varint.f k (ls.length : Int)).bind fun t346 => (if ([(84 : Int), 71] ++ t340).length + t346.length < 140737488355328 then (spec_l4body.l0 k (([84, 71] ++ t340) ++ t346) ((0 : Nat) : Int) b ls K Ps) else none)) else none)) (fun k => ?_) (Ev.bind hv1 (Ev.congr (fun k => if_pos (by simp only [List.length_cons, List.length_nil]; omega)) (Ev.bind (varint_ev ls.length (by omega)) (Ev.congr (fun k => if_pos (by simp only [List.length_append, List.length_cons, List.length_nil]; omega)) h0))))
  simp only [spec_l4body.f, Option.bind_some]
  rfl
end Go.Proofs.Ytmgmdnmfalepkaa.PEnc

namespace Go.Proofs.Ytmgmdnmfalepkaa.PEnc
open Go.RowKit Go.Proofs.YtmgmdnmfalepkaaW.PrintWords Go.Proofs.Ytmgmdnmfalepkaa.PKit Go.Proofs.Ytmgmdnmfalepkaa.POrd Go.Proofs.Ytmgmdnmfalepkaa.PTri Go.Proofs.Ytmgmdnmfalepkaa.PSeg Go.Proofs.Ytmgmdnmfalepkaa.L Go.Proofs.Ytmgmdnmfalepkaa.HelpBB
set_option linter.unusedVariables false
theorem xor_i64 (a b : Nat) (ha : a < 4294967296) (hb : b < 4294967296) : Go.bits .xor .i64 (a : Int) (b : Int) = ((a ^^^ b : Nat) : Int) := by
  have hx : a ^^^ b < 2 ^ 32 := Nat.xor_lt_two_pow (by omega) (by omega)
  have h1 : (BitVec.ofInt 64 (a : Int)).toNat = a := by
    rw [BitVec.ofInt_natCast, BitVec.toNat_ofNat]; exact Nat.mod_eq_of_lt (by omega)
  have h2 : (BitVec.ofInt 64 (b : Int)).toNat = b := by
    rw [BitVec.ofInt_natCast, BitVec.toNat_ofNat]; exact Nat.mod_eq_of_lt (by omega)
  show IntKind.i64.wrap ((BitVec.ofInt 64 (a : Int) ^^^ BitVec.ofInt 64 (b : Int)).toNat : Int) = _
  rw [BitVec.toNat_xor, h1, h2, IntKind.wrap_i64]
  omega
theorem xor_lt (a b : Nat) (ha : a < 4294967296) (hb : b < 4294967296) : a ^^^ b < 4294967296 := by
  have hx : a ^^^ b < 2 ^ 32 := Nat.xor_lt_two_pow (by omega) (by omega)
  omega
def mix (h : Nat) (c : Int) : Nat := ((h ^^^ c.toNat) * 16777619) % 4294967296
def sumFrom (z : Nat) (l : List Int) : Nat := l.foldl mix z
theorem sumFrom_snoc (z : Nat) (l : List Int) (c : Int) : sumFrom z (l ++ [c]) = mix (sumFrom z l) c := by
  unfold sumFrom
  rw [List.foldl_append, List.foldl_cons, List.foldl_nil]
def sum (l : List Int) : Nat := sumFrom 2166136261 l
theorem sum_snoc (l : List Int) (c : Int) : sum (l ++ [c]) = mix (sum l) c := sumFrom_snoc _ l c
theorem sum_nil : sum [] = 2166136261 := rfl
theorem mix_lt (h : Nat) (c : Int) : mix h c < 4294967296 := Nat.mod_lt _ (by decide)
theorem sum_lt (l : List Int) : sum l < 4294967296 := by
  rcases List.eq_nil_or_concat l with rfl | ⟨r, c, rfl⟩
  · rw [sum_nil]; decide
  · rw [List.concat_eq_append, sum_snoc]
    exact mix_lt _ _
def four (h : Nat) : List Int := [((h / 16777216 : Nat) : Int), ((h / 65536 % 256 : Nat) : Int), ((h / 256 % 256 : Nat) : Int), ((h % 256 : Nat) : Int)]
def code (s : SegT) : List Int := body s ++ four (sum (body s))
theorem four_bytes {h : Nat} (hh : h < 4294967296) : ∀ x ∈ four h, 0 ≤ x ∧ x ≤ 255 := by
  intro x hx
  simp only [four, List.mem_cons, List.not_mem_nil, or_false] at hx
  rcases hx with rfl | rfl | rfl | rfl <;> omega
theorem sum_ev (l : List Int) (hb : ∀ x ∈ l, 0 ≤ x ∧ x ≤ 255) (hl : l.length ≤ 1099511627776) : Ev (fun k => spec_l4checksum.f k l) (four (sum l)) := by
  have key : ∀ (d i : Nat), i + d = l.length → Ev (fun k => spec_l4checksum.l0 k l (sum (l.take i) : Int) (i : Int)) (four (sum l)) := by
    intro d
    induction d with
    | zero =>
      intro i hd
      have e : l.take i = l := List.take_of_length_le (by omega)
      rw [e]
      have hs := sum_lt l
      generalize sum l = h at hs
      refine Ev.step (f := fun _ => some (four h)) (fun k => ?_) (Ev.now _)
      simp only [spec_l4checksum.l0]
      rw [if_neg (by omega)]
      have t1 : Int.tdiv (h : Int) 16777216 = ((h / 16777216 : Nat) : Int) := rfl
      have t2 : Int.tdiv (h : Int) 65536 = ((h / 65536 : Nat) : Int) := rfl
      have t3 : Int.tdiv (h : Int) 256 = ((h / 256 : Nat) : Int) := rfl
      have t4 : Int.tmod (h : Int) 256 = ((h % 256 : Nat) : Int) := rfl
      have t5 : Int.tmod ((h / 65536 : Nat) : Int) 256 = ((h / 65536 % 256 : Nat) : Int) := rfl
      have t6 : Int.tmod ((h / 256 : Nat) : Int) 256 = ((h / 256 % 256 : Nat) : Int) := rfl
      rw [t1, t2, t3, t4, wrap_in (x := ((h / 16777216 : Nat) : Int)) (by omega), wrap_in (x := ((h / 65536 : Nat) : Int)) (by omega), wrap_in (x := ((h / 256 : Nat) : Int)) (by omega), t5, t6]
      unfold four
      congr 2
      · omega
      · congr 1
        · omega
        · congr 1
          · omega
          · congr 1
            omega
    | succ d ih =>
      intro i hd
      have hi : i < l.length := by omega
      have ht : l.take (i + 1) = l.take i ++ [l.getD i 0] := by
        rw [List.take_succ_eq_append_getElem hi]
        simp [List.getD, List.getElem?_eq_getElem hi]
      have hr := ih (i + 1) (by omega)
      rw [ht, sum_snoc] at hr
      obtain ⟨c0, c1⟩ := hb (l.getD i 0) (by
        have e : l.getD i 0 = l[i] := by simp [List.getD, List.getElem?_eq_getElem hi]
        rw [e]
        exact List.getElem_mem hi)
      have hs := sum_lt (l.take i)
      generalize sum (l.take i) = h at hs hr ⊢
      have hx := xor_lt h (l.getD i 0).toNat hs (by omega)
      refine Ev.step (fun k => ?_) hr
      simp only [spec_l4checksum.l0]
      rw [if_pos (by omega), if_pos (by omega), rd_at, wrap_in (x := l.getD i 0) (by omega)]
      have e1 : Go.bits .xor .i64 (h : Int) (l.getD i 0) = ((h ^^^ (l.getD i 0).toNat : Nat) : Int) := by
        have := xor_i64 h (l.getD i 0).toNat hs (by omega)
        rwa [Int.toNat_of_nonneg c0] at this
      rw [e1, wrap_in (by omega), wrap_succ i (by omega)]
      have e2 : Int.tmod (((h ^^^ (l.getD i 0).toNat : Nat) : Int) * 16777619) 4294967296 = ((mix h (l.getD i 0) : Nat) : Int) := by
        have : ((h ^^^ (l.getD i 0).toNat : Nat) : Int) * 16777619 = (((h ^^^ (l.getD i 0).toNat) * 16777619 : Nat) : Int) := by omega
        rw [this]
        rfl
      rw [e2]
  have h := key l.length 0 (by omega)
  exact Ev.congr (fun k => by simp only [spec_l4checksum.f]; rfl) h
theorem flat_bytes {f : Nat → List Int} : ∀ n, (∀ i, i < n → ∀ x ∈ f i, 0 ≤ x ∧ x ≤ 255) → ∀ x ∈ flat f n, 0 ≤ x ∧ x ≤ 255 := by
  intro n h x hx
  obtain ⟨i, hi, hx⟩ := List.mem_flatMap.1 hx
  exact h i (List.mem_range.1 hi) x hx
theorem body_bytes (s : SegT) (hb : Bytes s.2.1) : ∀ x ∈ body s, 0 ≤ x ∧ x ≤ 255 := by
  intro x hx
  unfold body head at hx
  simp only [List.mem_append] at hx
  rcases hx with ((((hx | hx) | hx) | hx) | hx) | hx
  · simp only [List.mem_cons, List.not_mem_nil, or_false] at hx
    rcases hx with rfl | rfl <;> omega
  · exact varint_bytes _ x hx
  · exact varint_bytes _ x hx
  · refine flat_bytes _ (fun i hi y hy => ?_) x hx
    unfold line at hy
    rcases List.mem_append.1 hy with hy | hy
    · exact varint_bytes _ y hy
    · exact getD_bytes hb i y hy
  · exact varint_bytes _ x hx
  · refine flat_bytes _ (fun j hj y hy => ?_) x hx
    unfold grp at hy
    simp only [List.mem_append] at hy
    rcases hy with (hy | hy) | hy
    · exact varint_bytes _ y hy
    · exact varint_bytes _ y hy
    · exact flat_bytes _ (fun i hi z hz => varint_bytes _ z hz) y hy
theorem body_len {s : SegT} (h : EncOk s) : (body s).length ≤ 250000000 := by
  have h1 := head_len h.b1 h.l1
  have h2 := lines_len h s.2.1.length (Nat.le_refl _)
  have h3 := varint_len10 (n := s.2.2.1.length) (by have := h.k1; omega)
  have h4 := grps_len h s.2.2.1.length (Nat.le_refl _)
  unfold body
  simp only [List.length_append]
  omega
theorem code_bytes {s : SegT} (hb : Bytes s.2.1) : ∀ x ∈ code s, 0 ≤ x ∧ x ≤ 255 := by
  intro x hx
  rcases List.mem_append.1 hx with hx | hx
  · exact body_bytes s hb x hx
  · exact four_bytes (sum_lt _) x hx
theorem encode_ev (s : SegT) (h : EncOk s) (hb : Bytes s.2.1) : Ev (fun k => spec_l4encode.f k s.1 s.2.1 s.2.2.1 s.2.2.2) (code s) := by
  have hl := body_len h
  refine Ev.congr (fun k => by simp only [spec_l4encode.f]) (Ev.bind (f := fun k t408 => (spec_l4checksum.f k t408).bind fun t411 => (if t408.length + t411.length < 140737488355328 then some (t408 ++ t411) else none)) (body_ev s h) (Ev.bind (sum_ev (body s) (body_bytes s hb) (by omega)) (Ev.congr (f := fun _ => some (code s)) (fun k => if_pos (by simp only [four, List.length_cons, List.length_nil]; omega)) (Ev.now _))))
end Go.Proofs.Ytmgmdnmfalepkaa.PEnc

namespace Go.Proofs.Ytmgmdnmfalepkaa.L
open Go.RowKit Go.Proofs.YtmgmdnmfalepkaaW.PrintWords Go.Proofs.YtmgmdnmfalepkaaW.PrintLast Go.Proofs.YtmgmdnmfalepkaaW.PrintMore
attribute [local go_sem] max2_int min2_int max_two min_two max_three min_three max_four min_four
set_option linter.unusedVariables false
set_option linter.unusedSimpArgs false
def spec_l4sameBytes.f (l0 : List Int) (l1 : List Int) : Option (Bool) := some ((strOfNums l0).toList == (strOfNums l1).toList)
set_option maxHeartbeats 8000000 in
set_option maxRecDepth 100000 in
theorem spec_l4sameBytes.calls (A0 : Option Addr) (c0 : Nat) (l0 : List Int) (A1 : Option Addr) (c1 : Nat) (l1 : List Int) (r : Bool) (w : World) (hr0 : Kd.C (Kd.int .u8) w A0 l0.length l0) (hc0 : l0.length ≤ c0) (hr1 : Kd.C (Kd.int .u8) w A1 l1.length l1) (hc1 : l1.length ≤ c1) (h : spec_l4sameBytes.f l0 l1 = some r) :
    Calls Try.prog 101 #[.slice A0 l0.length c0, .slice A1 l1.length c1] w fun e w' => e = .returned (.bool r) ∧ Drawn0 w w' := by
  have HR0 := Aside0.mk hr0
  have HC0 := Aside0.mk hc0
  clear hr0 hc0
  have HR1 := Aside0.mk hr1
  have HC1 := Aside0.mk hc1
  clear hr1 hc1
  have H : (some ((strOfNums l0).toList == (strOfNums l1).toList)) = some r := h
  clear h
  obtain rfl := Option.some.inj H
  have hcv3 := Kd.C_string (P := Try.prog) (A := A0) (c := c0) Try.underlying33 Try.underlying5 Try.underlying9 HR0.out
  have hcv4 := Kd.C_string (P := Try.prog) (A := A1) (c := c1) Try.underlying33 Try.underlying5 Try.underlying9 HR1.out
  go_enter Try.func101, Try.ntmps101
  go_wp2
  go_ret
  exact ⟨by first | rfl | (simp; done) | (simp [*]; done), by repeat (first | exact Drawn0.refl _ | apply Drawn0.step)⟩
end Go.Proofs.Ytmgmdnmfalepkaa.L

namespace Go.Proofs.Ytmgmdnmfalepkaa.L
open Go.RowKit Go.Proofs.YtmgmdnmfalepkaaW.PrintWords Go.Proofs.YtmgmdnmfalepkaaW.PrintLast Go.Proofs.YtmgmdnmfalepkaaW.PrintMore
attribute [local go_sem] max2_int min2_int max_two min_two max_three min_three max_four min_four
set_option linter.unusedVariables false
set_option linter.unusedSimpArgs false
end Go.Proofs.Ytmgmdnmfalepkaa.L

namespace Go.Proofs.Ytmgmdnmfalepkaa.PEnc
open Go.RowKit Go.Proofs.YtmgmdnmfalepkaaW.PrintWords Go.Proofs.Ytmgmdnmfalepkaa.PKit Go.Proofs.Ytmgmdnmfalepkaa.POrd Go.Proofs.Ytmgmdnmfalepkaa.PTri Go.Proofs.Ytmgmdnmfalepkaa.PSeg Go.Proofs.Ytmgmdnmfalepkaa.L Go.Proofs.Ytmgmdnmfalepkaa.HelpBB
set_option linter.unusedVariables false
theorem getD_in {l : List Int} {i : Nat} (h : i < l.length) : l.getD i 0 ∈ l := by
  rw [getD_get l i h]
  exact List.getElem_mem h
theorem post_mem {b : Int} {ls : List (List Int)} {n : Nat} {k x : Int} (h : x ∈ post b ls n k) : b ≤ x ∧ x < b + (n : Int) := by
  unfold post at h
  obtain ⟨i, hi, rfl⟩ := List.mem_map.1 h
  have := List.mem_range.1 (List.mem_filter.1 hi).1
  omega
theorem post_asc (b : Int) (ls : List (List Int)) (n : Nat) (k : Int) : Asc (post b ls n k) := by
  induction n with
  | zero => exact List.Pairwise.nil
  | succ n ih =>
    rw [post_succ]
    by_cases h : hasT ls k n = true
    · rw [if_pos h]
      exact snoc_asc ih (fun u hu => by have := (post_mem hu).2; omega)
    · rw [if_neg h, List.append_nil]
      exact ih
theorem fits_parts {b : Int} {ls : List (List Int)} (hf : fits b ls = true) : 0 ≤ b ∧ b ≤ 1000 ∧ 1 ≤ ls.length ∧ b + (ls.length : Int) ≤ 1000 ∧ plain ls = true ∧ totalB ls ≤ 20000 := by
  unfold fits at hf
  simp only [Bool.and_eq_true, decide_eq_true_eq] at hf
  obtain ⟨⟨⟨⟨⟨h1, h2⟩, h3⟩, h4⟩, h5⟩, h6⟩ := hf
  exact ⟨h1, h2, h3, h4, h5, h6⟩
theorem keys_bd {ls : List (List Int)} (hb : Bytes ls) : ∀ x ∈ keys ls, 0 ≤ x ∧ x ≤ 16777215 := fun x hx => by
  obtain ⟨l, hl, hx2⟩ := List.mem_flatMap.1 ((mem_ord _ _).1 hx)
  exact tris_bd l (fun y hy => hb l hl y hy) x hx2
theorem asc_getD {l : List Int} (h : Asc l) {i j : Nat} (hij : i < j) (hj : j < l.length) : l.getD i 0 < l.getD j 0 := by
  rw [getD_get l i (by omega), getD_get l j hj]
  exact asc_get h hij hj
theorem encOk_seg {b : Int} {ls : List (List Int)} (hf : fits b ls = true) (hb : Bytes ls) : EncOk (seg b ls) := by
  obtain ⟨h1, h2, h3, h4, h5, h6⟩ := fits_parts hf
  have hk := keys_len ls
  have ha : Asc (keys ls) := asc_ord _
  have hbd := keys_bd hb
  have hP : ∀ j, j < (keys ls).length → ((keys ls).map (post b ls ls.length)).getD j [] = post b ls ls.length ((keys ls).getD j 0) := fun j hj => by
    simp [List.getD, List.getElem?_map, List.getElem?_eq_getElem hj]
  refine ⟨h1, h2, by show ls.length ≤ 1000; omega, h6, by show (keys ls).length ≤ 20000; omega, by show ((keys ls).map _).length = (keys ls).length; rw [List.length_map], fun j => ?_, fun j hj => ?_, fun j i hj hi => ?_, fun j => ?_⟩
  · show (((keys ls).map (post b ls ls.length)).getD j []).length ≤ 1000
    by_cases hj : j < (keys ls).length
    · rw [hP j hj]
      have := post_len b ls ls.length ((keys ls).getD j 0)
      omega
    · rw [show ((keys ls).map (post b ls ls.length)).getD j [] = [] from by simp [List.getD, List.getElem?_eq_none (show ((keys ls).map (post b ls ls.length)).length ≤ j by rw [List.length_map]; omega)]]
      simp
  · show 0 ≤ gap (keys ls) j ∧ gap (keys ls) j ≤ 16777216
    have hj : j < (keys ls).length := hj
    have hm := hbd _ (getD_in hj)
    unfold gap
    by_cases h0 : j = 0
    · subst h0
      rw [if_pos rfl]
      omega
    · rw [if_neg h0]
      have hm2 := hbd _ (getD_in (show j - 1 < (keys ls).length by omega))
      have := asc_getD ha (show j - 1 < j by omega) hj
      omega
  · have hj : j < (keys ls).length := hj
    have hi : i < (((keys ls).map (post b ls ls.length)).getD j []).length := hi
    show 0 ≤ del b (((keys ls).map (post b ls ls.length)).getD j []) i ∧ del b (((keys ls).map (post b ls ls.length)).getD j []) i ≤ 1000
    rw [hP j hj] at hi ⊢
    have hpa := post_asc b ls ls.length ((keys ls).getD j 0)
    have hm := post_mem (getD_in hi)
    unfold del
    by_cases h0 : i = 0
    · subst h0
      rw [if_pos rfl]
      omega
    · rw [if_neg h0]
      have hm2 := post_mem (getD_in (show i - 1 < (post b ls ls.length ((keys ls).getD j 0)).length by omega))
      have := asc_getD hpa (show i - 1 < i by omega) hi
      omega
  · show -9223372036854775808 ≤ (keys ls).getD j 0 ∧ (keys ls).getD j 0 ≤ 9223372036854775807
    by_cases hj : j < (keys ls).length
    · have := hbd _ (getD_in hj)
      omega
    · rw [show (keys ls).getD j 0 = 0 from by simp [List.getD, List.getElem?_eq_none (Nat.le_of_not_lt hj)]]
      omega
def valid (s : SegT) : Bool := fits s.1 s.2.1 && (decide (s.2.2.1 = keys s.2.1) && decide (s.2.2.2 = (keys s.2.1).map (post s.1 s.2.1 s.2.1.length)))
def enc (s : SegT) : List Int := if valid s = true then code s else []
end Go.Proofs.Ytmgmdnmfalepkaa.PEnc

namespace Go.Proofs.Ytmgmdnmfalepkaa.PDec
open Go.RowKit Go.Proofs.YtmgmdnmfalepkaaW.PrintWords Go.Proofs.Ytmgmdnmfalepkaa.PKit Go.Proofs.Ytmgmdnmfalepkaa.PSeg Go.Proofs.Ytmgmdnmfalepkaa.PEnc Go.Proofs.Ytmgmdnmfalepkaa.HelpBB
set_option linter.unusedVariables false
def rdNum : Nat → List Int → Option (Nat × List Int)
  | 0, _ => none
  | _ + 1, [] => none
  | k + 1, c :: r => if c < 128 then some (c.toNat, r) else (rdNum k r).map fun q => (c.toNat % 128 + 128 * q.1, q.2)
def rdLine (k : Nat) (b : List Int) : Option (List Int × List Int) := (rdNum k b).bind fun q => if q.1 ≤ q.2.length then some (q.2.take q.1, q.2.drop q.1) else none
def rdLines (k : Nat) : Nat → List Int → Option (List (List Int) × List Int)
  | 0, b => some ([], b)
  | n + 1, b => (rdLine k b).bind fun q => (rdLines k n q.2).map fun p => (q.1 :: p.1, p.2)
def rdHead (k : Nat) (b : List Int) : Option (Int × List (List Int)) := (rdNum k b).bind fun q => (rdNum k q.2).bind fun p => if p.1 ≤ 1000 then (rdLines k p.1 p.2).map fun l => ((q.1 : Int), l.1) else none
theorem rdNum_varint : ∀ (k n : Nat) (r : List Int), n < 128 ^ (k + 1) → rdNum (k + 1) (varint n ++ r) = some (n, r) := by
  intro k
  induction k with
  | zero =>
    intro n r hn
    have hn : n < 128 := by simpa using hn
    rw [varint_lt hn]
    show (if (n : Int) < 128 then _ else _) = _
    rw [if_pos (by omega)]
    simp
  | succ k ih =>
    intro n r hn
    by_cases h : n < 128
    · rw [varint_lt h]
      show (if (n : Int) < 128 then _ else _) = _
      rw [if_pos (by omega)]
      simp
    · rw [varint_ge h, List.cons_append]
      show (if ((n % 128 + 128 : Nat) : Int) < 128 then _ else (rdNum (k + 1) (varint (n / 128) ++ r)).map _) = _
      rw [if_neg (by omega), ih (n / 128) r (by rw [Nat.div_lt_iff_lt_mul (by decide)]; rw [Nat.pow_succ] at hn; exact hn), Option.map_some, Int.toNat_natCast]
      have : (n % 128 + 128) % 128 + 128 * (n / 128) = n := by omega
      simp only [this]
theorem rdNum_some : ∀ (k : Nat) (b : List Int) (v : Nat) (r : List Int), (∀ x ∈ b, 0 ≤ x ∧ x ≤ 255) → rdNum k b = some (v, r) → v < 128 ^ k ∧ ∃ m, 1 ≤ m ∧ m ≤ k ∧ m ≤ b.length ∧ r = b.drop m := by
  intro k
  induction k with
  | zero => intro b v r _ h; simp [rdNum] at h
  | succ k ih =>
    intro b v r hb h
    rcases b with _ | ⟨c, t⟩
    · simp [rdNum] at h
    · have h : (if c < 128 then some (c.toNat, t) else (rdNum k t).map fun q => (c.toNat % 128 + 128 * q.1, q.2)) = some (v, r) := h
      have hc := hb c (List.mem_cons_self ..)
      have hp : 0 < 128 ^ k := Nat.pow_pos (by decide)
      rw [Nat.pow_succ]
      by_cases hl : c < 128
      · rw [if_pos hl] at h
        injection h with h
        injection h with h1 h2
        refine ⟨by omega, 1, Nat.le_refl _, by omega, by simp, by simpa using h2.symm⟩
      · rw [if_neg hl] at h
        cases hq : rdNum k t with
        | none => rw [hq] at h; simp at h
        | some q =>
          obtain ⟨q1, q2⟩ := q
          rw [hq, Option.map_some] at h
          injection h with h
          injection h with h1 h2
          obtain ⟨e1, m, e2, e3, e4, e5⟩ := ih t q1 q2 (fun x hx => hb x (List.mem_cons_of_mem _ hx)) hq
          have h1 : c.toNat % 128 + 128 * q1 = v := h1
          have h2 : q2 = r := h2
          refine ⟨by omega, m + 1, by omega, by omega, by simp; omega, ?_⟩
          rw [← h2, e5]
          simp
theorem bytes_drop {b : List Int} (hb : ∀ x ∈ b, 0 ≤ x ∧ x ≤ 255) (m : Nat) : ∀ x ∈ b.drop m, 0 ≤ x ∧ x ≤ 255 := fun x hx => hb x (List.mem_of_mem_drop hx)
theorem bytes_take {b : List Int} (hb : ∀ x ∈ b, 0 ≤ x ∧ x ≤ 255) (m : Nat) : ∀ x ∈ b.take m, 0 ≤ x ∧ x ≤ 255 := fun x hx => hb x (List.mem_of_mem_take hx)
theorem rdLines_some (k : Nat) : ∀ (n : Nat) (b : List Int) (ls : List (List Int)) (r : List Int), (∀ x ∈ b, 0 ≤ x ∧ x ≤ 255) → rdLines k n b = some (ls, r) → ls.length = n ∧ ls.length + totalB ls + r.length ≤ b.length ∧ Bytes ls := by
  intro n
  induction n with
  | zero =>
    intro b ls r hb h
    injection h with h
    injection h with h1 h2
    subst h1 h2
    exact ⟨rfl, by simp [totalB], fun l hl => by cases hl⟩
  | succ n ih =>
    intro b ls r hb h
    have h : ((rdLine k b).bind fun q => (rdLines k n q.2).map fun p => (q.1 :: p.1, p.2)) = some (ls, r) := h
    unfold rdLine at h
    cases hq : rdNum k b with
    | none => rw [hq] at h; simp at h
    | some q =>
      obtain ⟨v, t⟩ := q
      obtain ⟨_, m, e2, e3, e4, e5⟩ := rdNum_some k b v t hb hq
      rw [hq, Option.bind_some] at h
      simp only at h
      by_cases hv : v ≤ t.length
      · rw [if_pos hv, Option.bind_some] at h
        simp only at h
        have ht : ∀ x ∈ t, 0 ≤ x ∧ x ≤ 255 := by rw [e5]; exact bytes_drop hb m
        cases hp : rdLines k n (t.drop v) with
        | none => rw [hp] at h; simp at h
        | some p =>
          obtain ⟨ls', r'⟩ := p
          rw [hp, Option.map_some] at h
          injection h with h
          injection h with h1 h2
          have h1 : t.take v :: ls' = ls := h1
          have h2 : r' = r := h2
          obtain ⟨q1, q2, q3⟩ := ih _ _ _ (bytes_drop ht v) hp
          subst h1 h2
          have hc : totalB (t.take v :: ls') = (t.take v).length + totalB ls' := by simp [totalB]
          have hl1 : t.length = b.length - m := by rw [e5, List.length_drop]
          rw [List.length_drop] at q2
          refine ⟨by simp [q1], ?_, ?_⟩
          · rw [hc, List.length_cons, List.length_take]
            omega
          · intro l hl
            rcases List.mem_cons.1 hl with e | hl
            · subst e
              exact bytes_take ht v
            · exact q3 l hl
      · rw [if_neg hv] at h
        simp at h
theorem rdHead_some (k : Nat) (b : List Int) (base : Int) (ls : List (List Int)) (hb : ∀ x ∈ b, 0 ≤ x ∧ x ≤ 255) (h : rdHead k b = some (base, ls)) : 0 ≤ base ∧ base < ((128 ^ k : Nat) : Int) ∧ ls.length ≤ 1000 ∧ ls.length + totalB ls ≤ b.length ∧ Bytes ls := by
  unfold rdHead at h
  cases hq : rdNum k b with
  | none => rw [hq] at h; simp at h
  | some q =>
    obtain ⟨v, t⟩ := q
    obtain ⟨e1, m, e2, e3, e4, e5⟩ := rdNum_some k b v t hb hq
    have ht : ∀ x ∈ t, 0 ≤ x ∧ x ≤ 255 := by rw [e5]; exact bytes_drop hb m
    rw [hq, Option.bind_some] at h
    simp only at h
    cases hp : rdNum k t with
    | none => rw [hp] at h; simp at h
    | some p =>
      obtain ⟨n, t'⟩ := p
      obtain ⟨f1, m', f2, f3, f4, f5⟩ := rdNum_some k t n t' ht hp
      rw [hp, Option.bind_some] at h
      simp only at h
      by_cases hn : n ≤ 1000
      · rw [if_pos hn] at h
        cases hl : rdLines k n t' with
        | none => rw [hl] at h; simp at h
        | some l =>
          obtain ⟨ls', r⟩ := l
          rw [hl, Option.map_some] at h
          injection h with h
          injection h with h1 h2
          have h1 : (v : Int) = base := h1
          have h2 : ls' = ls := h2
          subst h2
          obtain ⟨q1, q2, q3⟩ := rdLines_some k n t' ls' r (by rw [f5]; exact bytes_drop ht m') hl
          have l1 : t.length = b.length - m := by rw [e5, List.length_drop]
          have l2 : t'.length = t.length - m' := by rw [f5, List.length_drop]
          have e1' : (v : Int) < ((128 ^ k : Nat) : Int) := Int.ofNat_lt.2 e1
          exact ⟨by omega, by omega, by omega, by omega, q3⟩
      · rw [if_neg hn] at h
        simp at h
theorem flat_lines (ls : List (List Int)) : flat (line ls) ls.length = ls.flatMap fun l => varint l.length ++ l := by
  have e : (List.range ls.length).map (fun i => ls.getD i []) = ls := by
    apply List.ext_getElem
    · simp
    · intro i h1 h2
      simp [List.getD, List.getElem?_eq_getElem h2]
  conv => rhs; rw [← e]
  rw [List.flatMap_map]
  rfl
theorem rdLines_code (k : Nat) : ∀ (ls : List (List Int)) (r : List Int), (∀ l ∈ ls, l.length < 128 ^ (k + 1)) → rdLines (k + 1) ls.length ((ls.flatMap fun l => varint l.length ++ l) ++ r) = some (ls, r) := by
  intro ls
  induction ls with
  | nil => intro r _; rfl
  | cons l t ih =>
    intro r h
    have e : ((l :: t).flatMap fun l => varint l.length ++ l) ++ r = varint l.length ++ (l ++ ((t.flatMap fun l => varint l.length ++ l) ++ r)) := by simp
    rw [e]
    show ((rdLine (k + 1) _).bind fun q => (rdLines (k + 1) t.length q.2).map fun p => (q.1 :: p.1, p.2)) = _
    unfold rdLine
    rw [rdNum_varint k l.length _ (h l (List.mem_cons_self ..)), Option.bind_some]
    simp only
    rw [if_pos (by simp), Option.bind_some]
    simp only
    rw [List.drop_left, List.take_left, ih r (fun x hx => h x (List.mem_cons_of_mem _ hx)), Option.map_some]
theorem code_form (b : Int) (ls : List (List Int)) : ∃ r, code (seg b ls) = [84, 71] ++ (varint b.toNat ++ (varint ls.length ++ ((ls.flatMap fun l => varint l.length ++ l) ++ r))) := by
  refine ⟨varint (keys ls).length ++ (flat (grp b (keys ls) ((keys ls).map (post b ls ls.length))) (keys ls).length ++ four (sum (body (seg b ls)))), ?_⟩
  rw [← flat_lines]
  unfold code
  generalize four (sum (body (seg b ls))) = f
  show (((([84, 71] ++ varint b.toNat ++ varint ls.length) ++ flat (line ls) ls.length) ++ varint (keys ls).length) ++ flat (grp b (keys ls) ((keys ls).map (post b ls ls.length))) (keys ls).length) ++ f = _
  simp only [List.append_assoc]
theorem rdHead_code (k : Nat) (hk : 3 ≤ k) (b : Int) (ls : List (List Int)) (h : fits b ls = true) : rdHead (k + 1) ((code (seg b ls)).drop 2) = some (b, ls) := by
  obtain ⟨h1, h2, h3, h4, h5, h6⟩ := fits_parts h
  obtain ⟨r, e⟩ := code_form b ls
  have hp : 268435456 ≤ 128 ^ (k + 1) := Nat.le_trans (by decide : 268435456 ≤ 128 ^ 4) (Nat.pow_le_pow_right (by decide) (by omega))
  rw [e]
  show rdHead (k + 1) (varint b.toNat ++ _) = _
  unfold rdHead
  rw [rdNum_varint k b.toNat _ (by omega), Option.bind_some]
  simp only
  rw [rdNum_varint k ls.length _ (by omega), Option.bind_some]
  simp only
  rw [if_pos (by omega), rdLines_code k ls r (fun l hl => by have := total_mem hl; omega), Option.map_some, Int.toNat_of_nonneg h1]
def decBy (P : List Int → Option (Int × List (List Int))) (b : List Int) : SegT × Int := match P b with
  | some q => if fits q.1 q.2 = true ∧ code (seg q.1 q.2) = b then (seg q.1 q.2, 0) else ((0, [], [], []), 5)
  | none => ((0, [], [], []), 5)
def Finds (P : List Int → Option (Int × List (List Int))) : Prop := ∀ b ls, fits b ls = true → P (code (seg b ls)) = some (b, ls)
theorem decBy_ok {P} (hP : Finds P) {b : Int} {ls : List (List Int)} (h : fits b ls = true) : decBy P (code (seg b ls)) = (seg b ls, 0) := by
  unfold decBy
  rw [hP b ls h]
  exact if_pos ⟨h, rfl⟩
theorem decBy_or (P) (b : List Int) : (∃ base ls, fits base ls = true ∧ code (seg base ls) = b ∧ P b = some (base, ls) ∧ decBy P b = (seg base ls, 0)) ∨ decBy P b = ((0, [], [], []), 5) := by
  unfold decBy
  cases h : P b with
  | none => exact .inr rfl
  | some q =>
    obtain ⟨base, ls⟩ := q
    by_cases hq : fits base ls = true ∧ code (seg base ls) = b
    · refine .inl ⟨base, ls, hq.1, hq.2, rfl, ?_⟩
      exact if_pos hq
    · exact .inr (if_neg hq)
theorem decBy_same {P Q} (hP : Finds P) (hQ : Finds Q) (b : List Int) : decBy P b = decBy Q b := by
  rcases decBy_or P b with ⟨base, ls, h1, h2, _, h3⟩ | h
  · rw [h3, ← h2, decBy_ok hQ h1]
  · rcases decBy_or Q b with ⟨base, ls, h1, h2, _, h3⟩ | h'
    · rw [h3, ← h2, decBy_ok hP h1]
    · rw [h, h']
def specP (b : List Int) : Option (Int × List (List Int)) := if b.length < 2 then none else rdHead 4 (b.drop 2)
def implP (b : List Int) : Option (Int × List (List Int)) := if b.take 2 = [84, 71] then rdHead 5 (b.drop 2) else none
theorem specP_finds : Finds specP := fun b ls h => by
  obtain ⟨r, e⟩ := code_form b ls
  unfold specP
  rw [if_neg (by rw [e]; simp), rdHead_code 3 (by omega) b ls h]
theorem implP_finds : Finds implP := fun b ls h => by
  obtain ⟨r, e⟩ := code_form b ls
  unfold implP
  rw [if_pos (by rw [e]; simp), rdHead_code 4 (by omega) b ls h]
def dec (b : List Int) : SegT × Int := decBy implP b
theorem dec_spec (b : List Int) : dec b = decBy specP b := decBy_same implP_finds specP_finds b
end Go.Proofs.Ytmgmdnmfalepkaa.PDec
