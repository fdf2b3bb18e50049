/- impl.tableOk: it tells whether a table is valid, for every table whose slices read as lists. -/
import Derived.Test.YtnpmkcbbmeekaaaIdxI
namespace Go.Proofs.Ytnpmkcbbmeekaaa.TableOk
open Go.RowKit Go.Proofs.YtnpmkcbbmeekaaaW.PrintWords Go.Proofs.YtnpmkcbbmeekaaaW.PrintMore Go.Proofs.Ytnpmkcbbmeekaaa.Kit
set_option linter.unusedVariables false
attribute [local go_sem] max2_int

/-- The greatest class so far, or none if one is out of order. -/
def top : Int → List Int → Option Int
  | t, [] => some t
  | t, c :: r => if c < 0 ∨ t + 1 < c then none else top (max t c) r
def inR (n : Int) (s : Int) : Bool := decide (s < 0) || decide (n ≤ s)
def sizesOk (n nc k nn : Int) : Bool := !(decide (n < 1) || decide (1024 < n) || (nc != 256) || decide (k < 1) || decide (256 < k) || (nn != n * k))
def ok (cls : List Int) (k : Int) (nxt : List Int) (acc : List Bool) : Bool :=
  sizesOk acc.length cls.length k nxt.length && (match top (-1) cls with | none => false | some t => (t == k - 1) && !nxt.any (inR acc.length))

theorem pred_calls (xs : List Int) (n : Int) (g : Nat) (w : World) (hg : g < w.heap.size) (hc : w.cell? ⟨g, 0, none⟩ = some (.int .i64 n)) : PredK Try.prog (Kd.int .i64) 61 #[.pointer (some ⟨g, 0, none⟩)] (inR n) xs w := by
  intro W x u _ hb hu
  have hu' : u = .int .i64 x := by simpa [Kd.int, Kd.scalar] using hu
  subst hu'
  have hc' : W.cell? ⟨g, 0, none⟩ = some (.int .i64 n) := (hb.cell (p := ⟨g, 0, none⟩) hg).trans hc
  clear hc hb
  have hr : inR n x = (decide (x < 0) || decide (n ≤ x)) := rfl
  have HR := Aside0.mk hr
  clear hr
  by_cases h0 : x < 0
  · go_enter Try.func61, Try.ntmps61
    go_wp2
    go_ret
    exact ⟨by rw [HR.out]; simp [h0], Below.refl _ _⟩
  · go_enter Try.func61, Try.ntmps61
    go_wp2
    go_ret
    refine ⟨by rw [HR.out, decide_eq_false (by omega : ¬ x < 0)]; rfl, ?_⟩
    repeat (first | exact Below.refl _ _ | apply below_drew)


def Post (b : Bool) (w : World) (e : Ending) (w' : World) : Prop := e = .returned (.bool b) ∧ Grew w w'

theorem bad_sizes {n nc k nn : Int} {P : Prop} (h : sizesOk n nc k nn = false) (h1 : n < 1 → P) (h2 : ¬ n < 1 → 1024 < n → P) (h3 : ¬ n < 1 → ¬ 1024 < n → nc ≠ 256 → P) (h4 : ¬ n < 1 → ¬ 1024 < n → nc = 256 → k < 1 → P)
    (h5 : ¬ n < 1 → ¬ 1024 < n → nc = 256 → ¬ k < 1 → 256 < k → P) (h6 : ¬ n < 1 → ¬ 1024 < n → nc = 256 → ¬ k < 1 → ¬ 256 < k → nn ≠ n * k → P) : P := by
  by_cases c1 : n < 1
  · exact h1 c1
  by_cases c2 : 1024 < n
  · exact h2 c1 c2
  by_cases c3 : nc = 256
  · by_cases c4 : k < 1
    · exact h4 c1 c2 c3 c4
    by_cases c5 : 256 < k
    · exact h5 c1 c2 c3 c4 c5
    by_cases c6 : nn = n * k
    · simp [sizesOk, c1, c2, c3, c4, c5, c6] at h
    · exact h6 c1 c2 c3 c4 c5 c6
  · exact h3 c1 c2 c3

theorem mul_in {n k : Int} (h1 : ¬ n < 1) (h2 : ¬ 1024 < n) (h4 : ¬ k < 1) (h5 : ¬ 256 < k) : wrap64 (n * k) = n * k := by
  have a : n * k ≤ 1024 * 256 := Int.mul_le_mul (by omega) (by omega) (by omega) (by omega)
  have b : 0 ≤ n * k := Int.mul_nonneg (by omega) (by omega)
  unfold wrap64
  omega

set_option maxHeartbeats 2000000 in
theorem bad_calls (A0 : Option Addr) (n0 c0 : Nat) (k : Int) (A2 : Option Addr) (n2 c2 : Nat) (A3 : Option Addr) (n3 c3 : Nat) (w : World) (m0 : n0 ≤ 9223372036854775807) (m2 : n2 ≤ 9223372036854775807) (m3 : n3 ≤ 9223372036854775807)
    (h : sizesOk n3 n0 k n2 = false) :
    Calls Try.prog 47 #[.agg #[.slice A0 n0 c0, .int .i64 k, .slice A2 n2 c2, .slice A3 n3 c3]] w (Post false w) := by
  refine bad_sizes h ?_ ?_ ?_ ?_ ?_ ?_ <;> clear h
  case refine_6 =>
    intro h1 h2 h3 h4 h5 h6
    have hb : ((n2 : Int) != wrap64 ((n3 : Int) * k)) = true := by rw [mul_in h1 h2 h4 h5]; exact bne_iff_ne.mpr h6
    clear h6
    go_enter Try.func47, Try.ntmps47
    go_wp2
    go_ret
    exact ⟨rfl, by repeat (first | exact Below.refl _ _ | apply below_drew | apply below_alloc)⟩
  all_goals
    intros
    go_enter Try.func47, Try.ntmps47
    go_wp2
    go_ret
    exact ⟨rfl, by repeat (first | exact Below.refl _ _ | apply below_drew | apply below_alloc)⟩

theorem top_snoc (t : Int) (l : List Int) (c : Int) : top t (l ++ [c]) = (top t l).bind fun t' => if c < 0 ∨ t' + 1 < c then none else some (max t' c) := by
  induction l generalizing t with
  | nil => simp [top]
  | cons x r ih =>
    simp only [List.cons_append, top]
    by_cases h : x < 0 ∨ t + 1 < x
    · simp [h]
    · simp only [h, if_false]
      exact ih _
theorem top_take (l : List Int) (i : Nat) (hi : i < l.length) : top (-1) (l.take (i + 1)) = (top (-1) (l.take i)).bind fun t' => if rd l i < 0 ∨ t' + 1 < rd l i then none else some (max t' (rd l i)) := by
  have e : l.take (i + 1) = l.take i ++ [rd l i] := by
    rw [List.take_succ_eq_append_getElem hi]
    simp [rd, List.getD, List.getElem?_eq_getElem hi]
  rw [e, top_snoc]
theorem top_none (t : Int) (l r : List Int) (h : top t l = none) : top t (l ++ r) = none := by
  induction l generalizing t with
  | nil => simp [top] at h
  | cons x l ih =>
    simp only [List.cons_append, top] at h ⊢
    by_cases hx : x < 0 ∨ t + 1 < x
    · simp [hx]
    · simp only [hx, if_false] at h ⊢
      exact ih _ h
theorem top_cut (l : List Int) (i : Nat) (h : top (-1) (l.take i) = none) : top (-1) l = none := by
  have := top_none (-1) (l.take i) (l.drop i) h
  rwa [List.take_append_drop] at this

set_option maxHeartbeats 2000000 in
theorem good_calls (A0 : Option Addr) (c0 : Nat) (l0 : List Int) (k : Int) (A2 : Option Addr) (c2 : Nat) (l2 : List Int) (A3 : Option Addr) (n3 c3 : Nat) (w : World) (hr0 : Kd.C (Kd.int .i64) w A0 l0.length l0) (hr2 : Kd.C (Kd.int .i64) w A2 l2.length l2)
    (b : Bool) (h1 : ¬ (n3 : Int) < 1) (h2 : ¬ 1024 < (n3 : Int)) (h3 : (l0.length : Int) = 256) (h4 : ¬ k < 1) (h5 : ¬ 256 < k) (h6 : (l2.length : Int) = n3 * k)
    (h : (match top (-1) l0 with | none => false | some t => (t == k - 1) && !l2.any (inR n3)) = b) :
    Calls Try.prog 47 #[.agg #[.slice A0 l0.length c0, .int .i64 k, .slice A2 l2.length c2, .slice A3 n3 c3]] w (Post b w) := by
  have hb : ((l2.length : Int) != wrap64 ((n3 : Int) * k)) = false := by rw [mul_in h1 h2 h4 h5]; exact bne_eq_false_iff_eq.mpr h6
  have h3' : ((l0.length : Int) != 256) = false := bne_eq_false_iff_eq.mpr h3
  have m2 := hr2.2.1
  have H3 := Aside0.mk h3
  have H6 := Aside0.mk h6
  have H := Aside0.mk h
  have HR0 := Aside0.mk hr0
  have HR2 := Aside0.mk hr2
  clear h3 h6 h hr0 hr2
  go_enter Try.func47, Try.ntmps47
  go_wp2
  go_loopg [4, 45] l0.length (fun gg s4 s45 wr => ∃ (i : Nat) (t : Int), i ≤ l0.length ∧ l0.length - i ≤ gg ∧ -1 ≤ t ∧ t < i ∧ s4 = .int .i64 t ∧ s45 = .int .i64 i ∧ Aside0 (top (-1) (l0.take i) = some t) ∧ wr = (w.alloc (.cells #[.slice A0 l0.length c0, .int .i64 k, .slice A2 l2.length c2, .slice A3 n3 c3] 42)).alloc (.cells #[.int .i64 n3] 3))
  case atStart => exact ⟨0, -1, Nat.zero_le _, by omega, by omega, by omega, rfl, rfl, ⟨rfl⟩, rfl⟩
  case round =>
    obtain ⟨i, t, hi, hg, ht0, ht1, rfl, rfl, HT, rfl⟩ := hrel
    have h256 : l0.length ≤ 256 := by have := H3.out; omega
    by_cases hlt : i < l0.length
    · have hltz : (i : Int) < (l0.length : Int) := by omega
      obtain ⟨ad, rfl, hc⟩ := Kd.at_int HR0.out (i : Int) (by omega) hltz
      simp only [Int.toNat_natCast] at hc
      have HS := Aside0.mk (top_take l0 i hlt)
      have hx : rd l0 (i : Int) = rd l0 i := rfl
      clear hx
      generalize rd l0 (i : Int) = x at hc HS
      replace hc := pw_cell_below (w1 := (w.alloc (.cells #[.slice (some ad) l0.length c0, .int .i64 k, .slice A2 l2.length c2, .slice A3 n3 c3] 42)).alloc (.cells #[.int .i64 n3] 3)) (below_alloc (below_alloc (Below.refl _ _) _) _) hc
      by_cases hx0 : x < 0
      · go_wp2
        go_ret
        refine ⟨?_, by repeat (first | exact Below.refl _ _ | apply below_drew | apply below_alloc)⟩
        have e : top (-1) l0 = none := top_cut l0 (i + 1) (by rw [HS.out, HT.out]; simp [hx0])
        have := H.out
        rw [e] at this
        rw [← this]; rfl
      · by_cases hx1 : t + 1 < x
        · go_wp2
          go_ret
          refine ⟨?_, by repeat (first | exact Below.refl _ _ | apply below_drew | apply below_alloc)⟩
          have e : top (-1) l0 = none := top_cut l0 (i + 1) (by rw [HS.out, HT.out]; simp [hx1])
          have := H.out
          rw [e] at this
          rw [← this]; rfl
        · go_wp2
          go_roundg (l0.length - (i + 1))
          case measure => omega
          case rel => exact ⟨i + 1, max t x, by omega, by omega, by omega, by omega, by simp [Int.max_def], by go_num, ⟨by rw [HS.out, HT.out]; simp [hx0, hx1]⟩, rfl⟩
    · have hltz : ¬ (i : Int) < (l0.length : Int) := by omega
      have hT : top (-1) l0 = some t := by
        have := HT.out
        rwa [List.take_of_length_le (by omega)] at this
      have hH : ((t == k - 1) && !l2.any (inR n3)) = b := by
        have := H.out
        rwa [hT] at this
      have HH := Aside0.mk hH
      clear hT hH
      by_cases hk : t = k - 1
      · have hkb : (t == k - 1) = true := beq_iff_eq.mpr hk
        have eg := enters_of Try.func61 (by kernel_rfl) rfl
        have hcall := IdxI.contains_calls (Kd.int .i64) rfl 0 (inR n3) 61 #[.pointer (some ⟨w.heap.size + 1, 0, none⟩)] eg A2 c2 l2 ((w.alloc (.cells #[.slice A0 l0.length c0, .int .i64 k, .slice A2 l2.length c2, .slice A3 n3 c3] 42)).alloc (.cells #[.int .i64 n3] 3))
          (Kd.C_below HR2.out (below_alloc (below_alloc (Below.refl _ _) _) _)) (pred_calls l2 n3 _ _ (by simp) (by simp))
        have HH2 : Aside0 ((!l2.any (inR n3)) = b) := ⟨by rw [← HH.out, hkb]; rfl⟩
        generalize l2.any (inR n3) = q at hcall HH2
        clear hk eg HH H
        go_wp2_with (go_at_call 60; refine hcall.mono ?_; rintro e w' ⟨rfl, hb'⟩)
        go_ret
        exact ⟨by rw [← HH2.out]; rfl, grew_trans (below_alloc (below_alloc (Below.refl _ _) _) _) hb'⟩
      · have hkb : (t == k - 1) = false := beq_eq_false_iff_ne.mpr hk
        go_wp2
        go_ret
        exact ⟨by rw [← HH.out, hkb]; rfl, by repeat (first | exact Below.refl _ _ | apply below_drew | apply below_alloc)⟩

theorem calls (A0 : Option Addr) (c0 : Nat) (l0 : List Int) (k : Int) (A2 : Option Addr) (c2 : Nat) (l2 : List Int) (A3 : Option Addr) (c3 : Nat) (l3 : List Bool) (w : World) (hr0 : Kd.C (Kd.int .i64) w A0 l0.length l0) (hr2 : Kd.C (Kd.int .i64) w A2 l2.length l2) (hr3 : Kd.C Kd.bool w A3 l3.length l3) :
    Calls Try.prog 47 #[.agg #[.slice A0 l0.length c0, .int .i64 k, .slice A2 l2.length c2, .slice A3 l3.length c3]] w fun e w' => e = .returned (.bool (ok l0 k l2 l3)) ∧ Below w.heap.size w w' := by
  cases h : sizesOk l3.length l0.length k l2.length with
  | false =>
    refine (bad_calls A0 l0.length c0 k A2 l2.length c2 A3 l3.length c3 w hr0.2.1 hr2.2.1 hr3.2.1 h).mono ?_
    rintro e w' ⟨rfl, hb⟩
    exact ⟨by unfold ok; rw [h]; rfl, hb⟩
  | true =>
    have h' := h
    unfold sizesOk at h'
    simp only [Bool.not_eq_true', Bool.or_eq_false_iff, decide_eq_false_iff_not, bne_eq_false_iff_eq] at h'
    obtain ⟨⟨⟨⟨⟨h1, h2⟩, h3⟩, h4⟩, h5⟩, h6⟩ := h'
    refine (good_calls A0 c0 l0 k A2 c2 l2 A3 l3.length c3 w hr0 hr2 _ h1 h2 h3 h4 h5 h6 rfl).mono ?_
    rintro e w' ⟨rfl, hb⟩
    exact ⟨by unfold ok; rw [h]; rfl, hb⟩
end Go.Proofs.Ytnpmkcbbmeekaaa.TableOk
