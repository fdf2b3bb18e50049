import Derived.Test.YtmgmdnmfalepkaaPKit
import Derived.Test.YtmgmdnmfalepkaaLtri
namespace Go.Proofs.Ytmgmdnmfalepkaa.POrd
open Go.RowKit Go.Proofs.YtmgmdnmfalepkaaW.PrintWords Go.Proofs.Ytmgmdnmfalepkaa.PKit Go.Proofs.Ytmgmdnmfalepkaa.L
structure Inv (x y out : List Int) (i j : Nat) : Prop where
  asc : Asc out
  mem : ∀ v, v ∈ out ↔ v ∈ x.take i ∨ v ∈ y.take j
  hx : ∀ v ∈ out, ∀ k (h : k < x.length), i ≤ k → v ≤ x[k]
  hy : ∀ v ∈ out, ∀ k (h : k < y.length), j ≤ k → v ≤ y[k]
def put (out : List Int) (v : Int) : List Int := if out.getLast? = some v then out else out ++ [v]
theorem mem_put (out : List Int) (v z : Int) : z ∈ put out v ↔ z ∈ out ∨ z = v := by
  unfold put
  split
  · rename_i h
    have := List.mem_of_getLast? h
    constructor
    · exact .inl
    · rintro (h | h)
      · exact h
      · subst h; exact this
  · simp
theorem asc_put {out : List Int} {v : Int} (h : Asc out) (hle : ∀ u ∈ out, u ≤ v) : Asc (put out v) := by
  unfold put
  split
  · exact h
  · rename_i hne
    rw [Asc, List.pairwise_append]
    refine ⟨h, by simp, fun u hu w hw => ?_⟩
    rw [List.mem_singleton] at hw
    subst hw
    have h1 := hle u hu
    rcases Int.lt_or_eq_of_le h1 with h2 | h2
    · exact h2
    · exfalso
      subst h2
      apply hne
      obtain ⟨q, hq⟩ : ∃ q, out.getLast? = some q := by
        cases ho : out with
        | nil => rw [ho] at hu; simp at hu
        | cons a b => exact ⟨_, List.getLast?_eq_some_getLast (by simp)⟩
      have hqm := List.mem_of_getLast? hq
      have hqle := hle q hqm
      have huq : u ≤ q := by
        obtain ⟨k, hk, rfl⟩ := List.getElem_of_mem hu
        have hql : q = out[out.length - 1]'(by omega) := by
          have := hq
          rw [List.getLast?_eq_getElem?, List.getElem?_eq_getElem (by omega)] at this
          injection this with this
          exact this.symm
        rw [hql]
        by_cases e : k = out.length - 1
        · subst e; exact Int.le_refl _
        · exact Int.le_of_lt (asc_get h (by omega) (by omega))
      have : u = q := by omega
      rw [this]
      exact hq
theorem mem_take_succ (x : List Int) (i : Nat) (h : i < x.length) (v : Int) : v ∈ x.take (i + 1) ↔ v ∈ x.take i ∨ v = x[i] := by
  rw [List.take_succ_eq_append_getElem h, List.mem_append, List.mem_singleton]
theorem Inv.left {x y out : List Int} {i j : Nat} (h : Inv x y out i j) (hx : Asc x) (hi : i < x.length) (hle : ∀ k (hk : k < y.length), j ≤ k → x[i] ≤ y[k]) : Inv x y (put out x[i]) (i + 1) j where
  asc := asc_put h.asc (fun u hu => h.hx u hu i hi (Nat.le_refl _))
  mem := fun v => by
    rw [mem_put, h.mem, mem_take_succ x i hi]
    constructor
    · rintro ((h | h) | h)
      · exact .inl (.inl h)
      · exact .inr h
      · exact .inl (.inr h)
    · rintro ((h | h) | h)
      · exact .inl (.inl h)
      · exact .inr h
      · exact .inl (.inr h)
  hx := fun v hv k hk hik => by
    rcases (mem_put _ _ _).1 hv with hv | rfl
    · exact h.hx v hv k hk (by omega)
    · exact Int.le_of_lt (asc_get hx (by omega) hk)
  hy := fun v hv k hk hjk => by
    rcases (mem_put _ _ _).1 hv with hv | rfl
    · exact h.hy v hv k hk hjk
    · exact hle k hk hjk
theorem Inv.right {x y out : List Int} {i j : Nat} (h : Inv x y out i j) (hy : Asc y) (hj : j < y.length) (hle : ∀ k (hk : k < x.length), i ≤ k → y[j] ≤ x[k]) : Inv x y (put out y[j]) i (j + 1) where
  asc := asc_put h.asc (fun u hu => h.hy u hu j hj (Nat.le_refl _))
  mem := fun v => by
    rw [mem_put, h.mem, mem_take_succ y j hj]
    constructor
    · rintro ((h | h) | h)
      · exact .inl h
      · exact .inr (.inl h)
      · exact .inr (.inr h)
    · rintro (h | h | h)
      · exact .inl (.inl h)
      · exact .inl (.inr h)
      · exact .inr h
  hx := fun v hv k hk hik => by
    rcases (mem_put _ _ _).1 hv with hv | rfl
    · exact h.hx v hv k hk hik
    · exact hle k hk hik
  hy := fun v hv k hk hjk => by
    rcases (mem_put _ _ _).1 hv with hv | rfl
    · exact h.hy v hv k hk (by omega)
    · exact Int.le_of_lt (asc_get hy (by omega) hk)
theorem put_len (out : List Int) (v : Int) : (put out v).length ≤ out.length + 1 := by
  unfold put
  split <;> simp
theorem last_test (out : List Int) (v : Int) (hl : out.length < 4611686018427387904) (hne : ¬ (out.length : Int) = 0) : 0 ≤ wrap64 ((out.length : Int) - 1) ∧ wrap64 ((out.length : Int) - 1) < (out.length : Int) ∧ (rd out (wrap64 ((out.length : Int) - 1)) = v ↔ out.getLast? = some v) := by
  have e : wrap64 ((out.length : Int) - 1) = ((out.length - 1 : Nat) : Int) := by rw [wrap_in (by omega)]; omega
  rw [e]
  refine ⟨by omega, by omega, ?_⟩
  rw [rd_get out _ (by omega), List.getLast?_eq_getElem?, List.getElem?_eq_getElem (by omega)]
  simp
theorem step_left (x y out : List Int) (i j : Nat) (hi : i < x.length) (hx : x.length < 4611686018427387904) (ho : out.length < 17592186044416) (k : Nat) :
    spec_l3order.j2 (k + 1) x y out i j true = spec_l3order.l0 k x y (put out x[i]) ((i + 1 : Nat) : Int) j := by
  simp only [spec_l3order.j2]
  rw [if_pos trivial, if_pos (by omega), if_pos (by omega), wrap_succ i (by omega), rd_get x i hi]
  by_cases h0 : (out.length : Int) = 0
  · have : out = [] := List.length_eq_zero_iff.1 (by omega)
    subst this
    rw [if_pos h0, if_pos (by simp)]
    simp [put]
  · obtain ⟨h1, h2, h3⟩ := last_test out x[i] (by omega) h0
    rw [if_neg h0, if_pos h1, if_pos h2]
    by_cases e : out.getLast? = some x[i]
    · rw [if_pos (h3.2 e)]
      simp only [put, e, if_true]
    · rw [if_neg (fun h => e (h3.1 h)), if_pos ho]
      simp only [put, e, if_false]
theorem step_right (x y out : List Int) (i j : Nat) (hj : j < y.length) (hy : y.length < 4611686018427387904) (ho : out.length < 17592186044416) (k : Nat) :
    spec_l3order.j2 (k + 1) x y out i j false = spec_l3order.l0 k x y (put out y[j]) i ((j + 1 : Nat) : Int) := by
  simp only [spec_l3order.j2]
  rw [if_neg (by simp), if_pos (by omega), if_pos (by omega), wrap_succ j (by omega), rd_get y j hj]
  by_cases h0 : (out.length : Int) = 0
  · have : out = [] := List.length_eq_zero_iff.1 (by omega)
    subst this
    rw [if_pos h0, if_pos (by simp)]
    simp [put]
  · obtain ⟨h1, h2, h3⟩ := last_test out y[j] (by omega) h0
    rw [if_neg h0, if_pos h1, if_pos h2]
    by_cases e : out.getLast? = some y[j]
    · rw [if_pos (h3.2 e)]
      simp only [put, e, if_true]
    · rw [if_neg (fun h => e (h3.1 h)), if_pos ho]
      simp only [put, e, if_false]
theorem merge_ev (x y : List Int) (hx : Asc x) (hy : Asc y) (lx : x.length + y.length < 17592186044416) : ∀ (d i j : Nat) (out : List Int), (x.length - i) + (y.length - j) = d → i ≤ x.length → j ≤ y.length → out.length ≤ i + j → Inv x y out i j →
    ∃ r, Ev (fun k => spec_l3order.l0 k x y out i j) r ∧ Asc r ∧ (∀ v, v ∈ r ↔ v ∈ x ∨ v ∈ y) := by
  intro d
  induction d with
  | zero =>
    intro i j out hd hi hj ho h
    refine ⟨out, ?_, h.asc, fun v => ?_⟩
    · refine Ev.step (f := fun k => spec_l3order.j1 k x y out i j false) (fun k => ?_) (Ev.step (f := fun _ => some out) (fun k => ?_) (Ev.now _))
      · simp only [spec_l3order.l0]
        rw [if_neg (by omega)]
        congr 1
        exact decide_eq_false (by omega)
      · simp only [spec_l3order.j1]
        rw [if_neg (by simp)]
    · rw [h.mem, List.take_of_length_le (by omega), List.take_of_length_le (by omega)]
  | succ d ih =>
    intro i j out hd hi hj ho h
    have hl : ∀ {r}, Ev (fun k => spec_l3order.j1 k x y out i j true) r → Ev (fun k => spec_l3order.l0 k x y out i j) r := fun {r} he => Ev.step (fun k => by
      simp only [spec_l3order.l0]
      by_cases hc : (i : Int) < (x.length : Int)
      · rw [if_pos hc]
      · rw [if_neg hc]
        congr 1
        exact decide_eq_true (by omega)) he
    by_cases hjy : j < y.length
    · by_cases hix : i < x.length
      · by_cases hle : x[i] ≤ y[j]
        · obtain ⟨r, hr, hr2⟩ := ih (i + 1) j (put out x[i]) (by omega) (by omega) hj (by have := put_len out x[i]; omega) (h.left hx hix (fun k hk hjk => by
            by_cases e : j = k
            · subst e; exact hle
            · have := asc_get hy (show j < k by omega) hk; omega))
          refine ⟨r, hl (Ev.step (f := fun k => spec_l3order.j2 k x y out i j true) (fun k => ?_) (Ev.step (fun k => step_left x y out i j hix (by omega) (by omega) k) hr)), hr2⟩
          simp only [spec_l3order.j1]
          rw [if_pos trivial, if_neg (by omega), if_pos (by omega), if_pos (by omega), if_pos (by omega), if_pos (by omega), rd_get x i hix, rd_get y j hjy, decide_eq_true hle]
        · obtain ⟨r, hr, hr2⟩ := ih i (j + 1) (put out y[j]) (by omega) hi (by omega) (by have := put_len out y[j]; omega) (h.right hy hjy (fun k hk hik => by
            by_cases e : i = k
            · subst e; omega
            · have := asc_get hx (show i < k by omega) hk; omega))
          refine ⟨r, hl (Ev.step (f := fun k => spec_l3order.j2 k x y out i j false) (fun k => ?_) (Ev.step (fun k => step_right x y out i j hjy (by omega) (by omega) k) hr)), hr2⟩
          simp only [spec_l3order.j1]
          rw [if_pos trivial, if_neg (by omega), if_pos (by omega), if_pos (by omega), if_pos (by omega), if_pos (by omega), rd_get x i hix, rd_get y j hjy, decide_eq_false hle]
      · obtain ⟨r, hr, hr2⟩ := ih i (j + 1) (put out y[j]) (by omega) hi (by omega) (by have := put_len out y[j]; omega) (h.right hy hjy (fun k hk hik => by omega))
        refine ⟨r, hl (Ev.step (f := fun k => spec_l3order.j2 k x y out i j false) (fun k => ?_) (Ev.step (fun k => step_right x y out i j hjy (by omega) (by omega) k) hr)), hr2⟩
        simp only [spec_l3order.j1]
        rw [if_pos trivial, if_neg (by omega), if_neg (by omega)]
    · obtain ⟨r, hr, hr2⟩ := ih (i + 1) j (put out (x[i]'(by omega))) (by omega) (by omega) hj (by have := put_len out (x[i]'(by omega)); omega) (h.left hx (by omega) (fun k hk hjk => by omega))
      refine ⟨r, hl (Ev.step (f := fun k => spec_l3order.j2 k x y out i j true) (fun k => ?_) (Ev.step (fun k => step_left x y out i j (by omega) (by omega) (by omega) k) hr)), hr2⟩
      simp only [spec_l3order.j1]
      rw [if_pos trivial, if_pos (by omega)]
theorem order_ev : ∀ (n : Nat) (l : List Int), l.length ≤ n → l.length < 17592186044416 → Ev (fun k => spec_l3order.f k l) (ord l) := by
  intro n
  induction n with
  | zero =>
    intro l hl _
    have : l = [] := List.length_eq_zero_iff.1 (by omega)
    subst this
    exact Ev.step (f := fun _ => some []) (fun k => by simp [spec_l3order.f]) (Ev.now _)
  | succ n ih =>
    intro l hl hb
    by_cases h2 : (l.length : Int) < 2
    · have e : l = ord l := ord_unique (by
        match l, h2 with
        | [], _ => simp
        | [a], _ => simp
        | a :: b :: r, h => simp at h; omega) (fun _ => Iff.rfl)
      refine Ev.step (f := fun _ => some (ord l)) (fun k => ?_) (Ev.now _)
      simp only [spec_l3order.f]
      rw [if_pos h2, if_pos (by simpa using hb), List.nil_append, ← e]
    · have hw : wrap64 ((l.length : Int) / 2) = ((l.length / 2 : Nat) : Int) := by rw [wrap_in (by omega)]; omega
      have hm1 : (l.take (l.length / 2)).length = l.length / 2 := by rw [List.length_take]; omega
      have hm2 : (l.drop (l.length / 2)).length = l.length - l.length / 2 := List.length_drop ..
      have h1 := ih (l.take (l.length / 2)) (by omega) (by omega)
      have h3 := ih (l.drop (l.length / 2)) (by omega) (by omega)
      have o1 := ord_len (l.take (l.length / 2))
      have o2 := ord_len (l.drop (l.length / 2))
      obtain ⟨r, hr, ha, hmem⟩ := merge_ev (ord (l.take (l.length / 2))) (ord (l.drop (l.length / 2))) (asc_ord _) (asc_ord _) (by omega) _ 0 0 [] rfl (Nat.zero_le _) (Nat.zero_le _) (by simp)
        ⟨by simp, by simp, by simp, by simp⟩
      have e : r = ord l := ord_unique ha (fun v => by
        rw [hmem, mem_ord, mem_ord, ← List.mem_append, List.take_append_drop])
      rw [e] at hr
      refine Ev.step (f := fun k => (spec_l3order.f k (l.take (l.length / 2))).bind fun t109 => ((spec_l3order.f k (l.drop (l.length / 2))).bind fun t113 => (spec_l3order.l0 k t109 t113 ([] : List Int) 0 0))) (fun k => ?_) (Ev.bind h1 (Ev.bind h3 hr))
      simp only [spec_l3order.f]
      rw [if_neg h2, hw, if_pos (by omega), if_pos (by omega)]
      simp only [Int.toNat_natCast]
end Go.Proofs.Ytmgmdnmfalepkaa.POrd
