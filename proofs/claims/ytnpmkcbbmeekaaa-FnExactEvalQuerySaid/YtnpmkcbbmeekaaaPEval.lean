/- FnExactEvalQuery's pure statement: the law's pure function answers true at every query and list of whole numbers of 64 bits. -/
import Derived.Test.YtnpmkcbbmeekaaaPOrd
import Derived.Test.YtnpmkcbbmeekaaaQx1
import Derived.Test.YtnpmkcbbmeekaaaQx3
import Derived.Test.YtnpmkcbbmeekaaaQx4
import Derived.Test.YtnpmkcbbmeekaaaQx5
namespace Go.Proofs.Ytnpmkcbbmeekaaa.PEval
open Go.RowKit Go.Proofs.YtnpmkcbbmeekaaaW.PrintWords Go.Proofs.Ytnpmkcbbmeekaaa.PKit Go.Proofs.Ytnpmkcbbmeekaaa.POrd Go.Proofs.Ytnpmkcbbmeekaaa.Q

theorem toIntS_ev (l : List Int) (hl : l.length ≤ 35184372088832) : Ev (fun k => laws_toIntS.f k l) l := by
  have key : ∀ (d i : Nat) (out : List Int), i + d = l.length → out.length = l.length → out.take i = l.take i → Ev (fun k => laws_toIntS.l0 k l out i) l := by
    intro d
    induction d with
    | zero =>
      intro i out hd ho ht
      rw [List.take_of_length_le (by omega), List.take_of_length_le (by omega)] at ht
      subst ht
      refine Ev.step (f := fun _ => some out) (fun k => ?_) (Ev.now _)
      simp only [laws_toIntS.l0]
      rw [if_neg (by omega)]
    | succ d ih =>
      intro i out hd ho ht
      refine Ev.step (f := fun k => laws_toIntS.l0 k l (out.set i (rd l i)) ((i + 1 : Nat) : Int)) (fun k => ?_) (ih (i + 1) _ (by omega) (by simp [ho]) (set_take l out i _ (by omega) ho ht ?_))
      · simp only [laws_toIntS.l0]
        rw [if_pos (by omega), if_pos (by omega), if_pos (by omega), wrap_succ i (by omega), Int.toNat_natCast]
      · rw [rd_get l i (by omega), List.getElem?_eq_getElem (by omega)]
  refine Ev.congr (fun k => ?_) (key l.length 0 (List.replicate l.length 0) (by omega) (by simp) (by simp))
  simp only [laws_toIntS.f]
  rw [if_pos (by omega), if_pos (by omega), Int.toNat_natCast]
  rfl
theorem toIntSS_ev (l : List (List Int)) (hl : l.length ≤ 11728124029610) (hx : ∀ x ∈ l, x.length ≤ 35184372088832) : Ev (fun k => laws_toIntSS.f k l) l := by
  have key : ∀ (d i : Nat) (out : List (List Int)), i + d = l.length → out.length = l.length → out.take i = l.take i → Ev (fun k => laws_toIntSS.l0 k l out i) l := by
    intro d
    induction d with
    | zero =>
      intro i out hd ho ht
      rw [List.take_of_length_le (by omega), List.take_of_length_le (by omega)] at ht
      subst ht
      refine Ev.step (f := fun _ => some out) (fun k => ?_) (Ev.now _)
      simp only [laws_toIntSS.l0]
      rw [if_neg (by omega)]
    | succ d ih =>
      intro i out hd ho ht
      have hi : i < l.length := by omega
      have hg : l.getD i [] = l[i] := by simp [List.getD, List.getElem?_eq_getElem hi]
      have h1 : Ev (fun k => laws_toIntS.f k (l.getD i [])) l[i] := by rw [hg]; exact toIntS_ev _ (hx _ (List.getElem_mem hi))
      refine Ev.step (f := fun k => (laws_toIntS.f k (l.getD i [])).bind fun t153 => laws_toIntSS.l0 k l (out.set i t153) ((i + 1 : Nat) : Int)) (fun k => ?_)
        (Ev.bind h1 (ih (i + 1) _ (by omega) (by simp [ho]) (set_take l out i _ (by omega) ho ht (List.getElem?_eq_getElem hi))))
      simp only [laws_toIntSS.l0]
      rw [if_pos (by omega), if_pos (by omega), wrap_succ i (by omega), Int.toNat_natCast]
      congr 1
      funext t
      rw [if_pos (by omega)]
  refine Ev.congr (fun k => ?_) (key l.length 0 (List.replicate l.length []) (by omega) (by simp) (by simp))
  simp only [laws_toIntSS.f]
  rw [if_pos (by omega), if_pos (by omega), Int.toNat_natCast]
  rfl
theorem toQuery_ev (l : List (List Int)) (hl : l.length ≤ 11728124029610) (hx : ∀ x ∈ l, x.length ≤ 35184372088832) : Ev (fun k => laws_toQuery.f k l) l :=
  Ev.bind (toIntSS_ev l hl hx) (Ev.now _)
theorem eqIntS_ev (l : List Int) (hl : l.length ≤ 35184372088832) : Ev (fun k => laws_eqIntS.f k l l) true := by
  have key : ∀ (d i : Nat), i + d = l.length → Ev (fun k => laws_eqIntS.l0 k l l i) true := by
    intro d
    induction d with
    | zero =>
      intro i hd
      refine Ev.step (f := fun _ => some true) (fun k => ?_) (Ev.now _)
      simp only [laws_eqIntS.l0]
      rw [if_neg (by omega)]
    | succ d ih =>
      intro i hd
      refine Ev.step (f := fun k => laws_eqIntS.l0 k l l ((i + 1 : Nat) : Int)) (fun k => ?_) (ih (i + 1) (by omega))
      simp only [laws_eqIntS.l0]
      rw [if_pos (by omega), if_pos (by omega), if_pos (by omega), if_pos trivial, wrap_succ i (by omega)]
  refine Ev.congr (fun k => ?_) (key l.length 0 (by omega))
  simp only [laws_eqIntS.f]
  rw [if_pos trivial]
  rfl
theorem eqIntSS_ev (l : List (List Int)) (hl : l.length ≤ 11728124029610) (hx : ∀ x ∈ l, x.length ≤ 35184372088832) : Ev (fun k => laws_eqIntSS.f k l l) true := by
  have key : ∀ (d i : Nat), i + d = l.length → Ev (fun k => laws_eqIntSS.l0 k l l i) true := by
    intro d
    induction d with
    | zero =>
      intro i hd
      refine Ev.step (f := fun _ => some true) (fun k => ?_) (Ev.now _)
      simp only [laws_eqIntSS.l0]
      rw [if_neg (by omega)]
    | succ d ih =>
      intro i hd
      have hi : i < l.length := by omega
      have hg : l.getD i [] = l[i] := by simp [List.getD, List.getElem?_eq_getElem hi]
      have h1 : Ev (fun k => laws_eqIntS.f k (l.getD i []) (l.getD i [])) true := by rw [hg]; exact eqIntS_ev _ (hx _ (List.getElem_mem hi))
      refine Ev.step (f := fun k => (laws_eqIntS.f k (l.getD i []) (l.getD i [])).bind fun t167 => (if t167 = true then (laws_eqIntSS.l0 k l l ((i + 1 : Nat) : Int)) else (some false))) (fun k => ?_) (Ev.bind h1 (Ev.congr (fun _ => if_pos rfl) (ih (i + 1) (by omega))))
      simp only [laws_eqIntSS.l0]
      rw [if_pos (by omega), if_pos (by omega), if_pos (by omega), wrap_succ i (by omega)]
      rfl
  refine Ev.congr (fun k => ?_) (key l.length 0 (by omega))
  simp only [laws_eqIntSS.f]
  rw [if_pos trivial]
  rfl
theorem eqQuery_ev (l : List (List Int)) (hl : l.length ≤ 11728124029610) (hx : ∀ x ∈ l, x.length ≤ 35184372088832) : Ev (fun k => laws_eqQuery.f k l l) true :=
  Ev.bind (eqIntSS_ev l hl hx) (Ev.congr (fun _ => if_pos rfl) (Ev.now _))
theorem szIntSS_ev (l : List (List Int)) (a : Int) (ha : a ≤ 1048576) (ha0 : 0 ≤ a) (hl : l.length ≤ 9223372036854775807) (hx : ∀ x ∈ l, x.length ≤ 9223372036854775807) :
    ∃ r, Ev (fun k => laws_szIntSS.f k l a) r ∧ r ≤ a ∧ (0 ≤ r → (l.length : Int) ≤ a ∧ ∀ x ∈ l, (x.length : Int) ≤ a) := by
  have key : ∀ (d i : Nat) (b : Int), i + d = l.length → l.length ≤ 1048576 → 0 ≤ b → b ≤ a → (∀ q (h : q < l.length), q < i → (l[q].length : Int) ≤ a) →
      ∃ r, Ev (fun k => laws_szIntSS.l0 k l b i) r ∧ r ≤ a ∧ (0 ≤ r → ∀ x ∈ l, (x.length : Int) ≤ a) := by
    intro d
    induction d with
    | zero =>
      intro i b hd hl2 hb0 hb h
      refine ⟨b, Ev.step (f := fun _ => some b) (fun k => ?_) (Ev.now _), hb, fun _ x hxm => ?_⟩
      · simp only [laws_szIntSS.l0]
        rw [if_neg (by omega)]
      · obtain ⟨q, hq, rfl⟩ := List.getElem_of_mem hxm
        exact h q hq (by omega)
    | succ d ih =>
      intro i b hd hl2 hb0 hb h
      have hi : i < l.length := by omega
      have hg : l.getD i [] = l[i] := by simp [List.getD, List.getElem?_eq_getElem hi]
      have hlen := hx l[i] (List.getElem_mem hi)
      have hw : wrap64 (b - (l[i].length : Int)) = b - l[i].length := wrap_in (by omega)
      by_cases hn : b - (l[i].length : Int) < 0
      · refine ⟨-1, Ev.step (f := fun _ => some (-1)) (fun k => ?_) (Ev.now _), by omega, fun h0 => by omega⟩
        simp only [laws_szIntSS.l0]
        rw [if_pos (by omega), if_pos (by omega)]
        show ((laws_szIntS.f (l.getD i []) b).bind _) = _
        rw [hg]
        simp only [laws_szIntS.f]
        rw [hw, if_pos hn]
        simp only [Option.bind_some]
        rw [if_pos (by omega)]
      · obtain ⟨r, hr, hra, hr2⟩ := ih (i + 1) (b - l[i].length) (by omega) hl2 (by omega) (by omega) (fun q hq hqi => by
          by_cases e : q = i
          · subst e; omega
          · exact h q hq (by omega))
        refine ⟨r, Ev.step (fun k => ?_) hr, hra, hr2⟩
        simp only [laws_szIntSS.l0]
        rw [if_pos (by omega), if_pos (by omega)]
        show ((laws_szIntS.f (l.getD i []) b).bind _) = _
        rw [hg]
        simp only [laws_szIntS.f]
        rw [hw, if_neg hn]
        simp only [Option.bind_some]
        rw [if_neg (by omega), wrap_succ i (by omega)]
  have hw : wrap64 (a - (l.length : Int)) = a - l.length := wrap_in (by omega)
  by_cases hn : a - (l.length : Int) < 0
  · refine ⟨-1, Ev.congr (f := fun _ => some (-1)) (fun k => ?_) (Ev.now _), by omega, fun h0 => by omega⟩
    simp only [laws_szIntSS.f]
    rw [hw, if_pos hn]
  · obtain ⟨r, hr, hra, hr2⟩ := key l.length 0 (a - l.length) (by omega) (by omega) (by omega) (by omega) (fun q hq h => by omega)
    refine ⟨r, Ev.congr (fun k => ?_) hr, hra, fun h0 => ⟨by omega, hr2 h0⟩⟩
    simp only [laws_szIntSS.f]
    rw [hw, if_neg hn]
    rfl
theorem szQuery_ev (l : List (List Int)) (a : Int) (ha : a ≤ 1048576) (ha0 : 0 ≤ a) (hl : l.length ≤ 9223372036854775807) (hx : ∀ x ∈ l, x.length ≤ 9223372036854775807) :
    ∃ r, Ev (fun k => laws_szQuery.f k l a) r ∧ r ≤ a ∧ (0 ≤ r → (l.length : Int) ≤ a ∧ ∀ x ∈ l, (x.length : Int) ≤ a) := by
  obtain ⟨r, hr, hra, hr2⟩ := szIntSS_ev l a ha ha0 hl hx
  by_cases h0 : r < 0
  · exact ⟨-1, Ev.bind hr (Ev.congr (fun _ => if_pos h0) (Ev.now _)), by omega, fun h => by omega⟩
  · exact ⟨r, Ev.bind hr (Ev.congr (fun _ => if_neg h0) (Ev.now _)), hra, hr2⟩

theorem spec_ev (cs : List (List Int)) (ts : List Int) (hl : ts.length ≤ 1048576) (hc : cs.length ≤ 1048576) (hx : ∀ x ∈ cs, x.length ≤ 1048576) : Ev (fun k => spec_EvalQuery.f k cs ts) (EvalQ.val cs ts) := by
  have ho := ord_len ts
  have hval : EvalQ.val cs ts = cs.any fun c => c.all fun v => decide (v ∈ ord ts) := by
    unfold EvalQ.val
    congr 1
    funext c
    congr 1
    funext v
    rw [Bool.eq_iff_iff]
    simp [mem_ord]
  rw [hval]
  have key : ∀ (d i : Nat), i + d = cs.length → (∀ q (h : q < cs.length), q < i → (cs[q].all fun v => decide (v ∈ ord ts)) = false) → Ev (fun k => spec_EvalQuery.l0 k (ord ts) i cs) (cs.any fun c => c.all fun v => decide (v ∈ ord ts)) := by
    intro d
    induction d with
    | zero =>
      intro i hd h
      have e : (cs.any fun c => c.all fun v => decide (v ∈ ord ts)) = false := by
        rw [List.any_eq_false]
        intro c hcm
        obtain ⟨q, hq, rfl⟩ := List.getElem_of_mem hcm
        rw [h q hq (by omega)]
        simp
      rw [e]
      refine Ev.step (f := fun _ => some false) (fun k => ?_) (Ev.now _)
      simp only [spec_EvalQuery.l0]
      rw [if_neg (by omega)]
    | succ d ih =>
      intro i hd h
      have hi : i < cs.length := by omega
      have hg : cs.getD i [] = cs[i] := by simp [List.getD, List.getElem?_eq_getElem hi]
      have h1 := holds_ev (ord ts) cs[i] (asc_ord ts) (by omega) (by have := hx _ (List.getElem_mem hi); omega)
      rw [← hg] at h1
      have hs : ∀ k, spec_EvalQuery.l0 (k + 1) (ord ts) i cs = ((spec_l3holds.f k (ord ts) (cs.getD i [])).bind fun t143 => (if t143 = true then (some true) else (spec_EvalQuery.l0 k (ord ts) ((i + 1 : Nat) : Int) cs))) := fun k => by
        simp only [spec_EvalQuery.l0]
        rw [if_pos (by omega), if_pos (by omega), wrap_succ i (by omega)]
        rfl
      refine Ev.step hs (Ev.bind h1 ?_)
      rw [hg]
      by_cases hb : (cs[i].all fun v => decide (v ∈ ord ts)) = true
      · have e : (cs.any fun c => c.all fun v => decide (v ∈ ord ts)) = true := by
          rw [List.any_eq_true]
          exact ⟨_, List.getElem_mem hi, hb⟩
        rw [e, hb]
        exact Ev.congr (fun _ => if_pos rfl) (Ev.now _)
      · refine Ev.congr (fun _ => if_neg hb) (ih (i + 1) (by omega) (fun q hq hqi => ?_))
        by_cases e : q = i
        · subst e; simpa using hb
        · exact h q hq (by omega)
  refine Ev.congr (fun _ => rfl) (Ev.bind (order_ev ts.length ts (Nat.le_refl _) (by omega)) ?_)
  exact key cs.length 0 (by omega) (fun q hq h => by omega)

theorem pure (cs : List (List Int)) (ts : List Int) (hcl : cs.length ≤ 9223372036854775807) (hcx : ∀ x ∈ cs, x.length ≤ 9223372036854775807) (hcw : ∀ c ∈ cs, ∀ x ∈ c, (Lit.int .i64 x).wf = true) (htw : ∀ x ∈ ts, (Lit.int .i64 x).wf = true) :
    ∃ k, laws_FnExactEvalQuery.f k cs ts = some true := by
  refine Ev.rounds ?_
  by_cases h1 : (ts.length : Int) > 1048576
  · exact Ev.congr (fun _ => if_pos h1) (Ev.now _)
  · refine Ev.congr (fun _ => if_neg h1) ?_
    obtain ⟨r, hr, hra, hr2⟩ := szQuery_ev cs 1048576 (by omega) (by omega) hcl hcx
    refine Ev.bind hr ?_
    by_cases h0 : r < 0
    · exact Ev.congr (fun _ => if_pos h0) (Ev.now _)
    · obtain ⟨hl, hx⟩ := hr2 (by omega)
      have hx' : ∀ x ∈ cs, x.length ≤ 1048576 := fun x hxm => by have := hx x hxm; omega
      have hx'' : ∀ x ∈ cs, x.length ≤ 35184372088832 := fun x hxm => by have := hx x hxm; omega
      have q := toQuery_ev cs (by omega) hx''
      have t := toIntS_ev ts (by omega)
      have hi : Ev (fun k => impl_EvalQuery.f cs ts) (EvalQ.val cs ts) := Ev.congr (fun _ => EvalQ.fn_some (by omega) htw hcw) (Ev.now _)
      refine Ev.congr (fun _ => if_neg h0) ?_
      refine Ev.bind q (Ev.bind t (Ev.bind (spec_ev cs ts (by omega) (by omega) hx') (Ev.bind q (Ev.bind t (Ev.bind hi ?_)))))
      refine Ev.congr (fun _ => if_neg (by simp)) ?_
      refine Ev.bind q (Ev.bind (eqQuery_ev cs (by omega) hx'') (Ev.congr (fun _ => if_pos rfl) (Ev.bind t (Ev.bind (eqIntS_ev ts (by omega)) (Ev.congr (fun _ => if_pos rfl) (Ev.now _))))))
end Go.Proofs.Ytnpmkcbbmeekaaa.PEval
