/- FnExactValidPattern's pure statement: the law's own helpers and the law. -/
import Derived.Test.YtnpmkcbbmeekaaaPValid
import Derived.Test.YtnpmkcbbmeekaaaVx9
namespace Go.Proofs.Ytnpmkcbbmeekaaa.PValid
open Go.RowKit Go.Proofs.YtnpmkcbbmeekaaaW.PrintWords Go.Proofs.Ytnpmkcbbmeekaaa.PKit Go.Proofs.Ytnpmkcbbmeekaaa.Node Go.Proofs.Ytnpmkcbbmeekaaa.Tree Go.Proofs.Ytnpmkcbbmeekaaa.V
set_option linter.unusedVariables false

abbrev SA := S94
abbrev SB := S96
abbrev zA := z94
theorem rdA (L : List SA) (i : Nat) : rd_T94 L (i : Int) = L.getD i zA := rfl
theorem getA_mem (L : List SA) (i : Nat) (h : i < L.length) : L.getD i zA ∈ L := by
  rw [List.getD, List.getElem?_eq_getElem h]
  exact List.getElem_mem _
theorem szOp_eq (f0 : Int) (l : List Int) (f2 f3 a : Int) (hl : l.length ≤ 9223372036854775807) (a0 : 0 ≤ a) (a1 : a ≤ 1048576) : laws_szOp.f f0 l f2 f3 a = some (if a - l.length < 0 then -1 else a - l.length) := by
  unfold laws_szOp.f laws_szIntS.f
  rw [wrap_in (by omega)]
  by_cases h : a - l.length < 0
  · rw [if_pos h, if_pos h, Option.bind_some, if_pos (by omega)]
  · rw [if_neg h, if_neg h, Option.bind_some, if_neg h]
theorem sz_ev (b0 b1 : Bool) (L : List SA) (hL : L.length ≤ 9223372036854775807) (hs : ∀ x ∈ L, x.f1.length ≤ 9223372036854775807) : ∃ r, Ev (fun k => laws_szPattern.f k b0 b1 L 1048576) r ∧ (0 ≤ r → L.length ≤ 1048576 ∧ ∀ x ∈ L, x.f1.length ≤ 1048576) := by
  have key : ∀ (d i : Nat) (a : Int), i + d = L.length → L.length ≤ 1048576 → 0 ≤ a → a ≤ 1048576 → ∃ r, Ev (fun k => laws_szOpS.l0 k L a i) r ∧ (0 ≤ r → ∀ j, i ≤ j → j < L.length → (L.getD j zA).f1.length ≤ 1048576) := by
    intro d
    induction d with
    | zero =>
      intro i a hd hm a0 a1
      refine ⟨a, Ev.step (f := fun _ => some a) (fun k => ?_) (Ev.now _), fun _ j hj hj2 => by omega⟩
      simp only [laws_szOpS.l0]
      rw [if_neg (by omega)]
    | succ d ih =>
      intro i a hd hm a0 a1
      have e := szOp_eq (L.getD i zA).f0 (L.getD i zA).f1 (L.getD i zA).f2 (L.getD i zA).f3 a (hs _ (getA_mem L i (by omega))) a0 a1
      by_cases h : a - (L.getD i zA).f1.length < 0
      · rw [if_pos h] at e
        refine ⟨-1, Ev.step (f := fun _ => some (-1)) (fun k => ?_) (Ev.now _), fun h => by omega⟩
        simp only [laws_szOpS.l0]
        rw [if_pos (by omega), if_pos (by omega), rdA, e, Option.bind_some, if_pos (by omega)]
      · rw [if_neg h] at e
        obtain ⟨r, h1, h2⟩ := ih (i + 1) (a - (L.getD i zA).f1.length) (by omega) hm (by omega) (by omega)
        refine ⟨r, Ev.step (fun k => ?_) h1, fun hr j hj hj2 => ?_⟩
        · simp only [laws_szOpS.l0]
          rw [if_pos (by omega), if_pos (by omega), rdA, e, Option.bind_some, if_neg h, wrap_succ i (by omega)]
        · by_cases e : j = i
          · subst e; omega
          · exact h2 hr j (by omega) hj2
  have hw : wrap64 ((1048576 : Int) - (L.length : Int)) = 1048576 - (L.length : Int) := wrap_in (by omega)
  have top : ∃ r, Ev (fun k => laws_szOpS.f k L 1048576) r ∧ (0 ≤ r → L.length ≤ 1048576 ∧ ∀ x ∈ L, x.f1.length ≤ 1048576) := by
    by_cases h : (1048576 : Int) - (L.length : Int) < 0
    · refine ⟨-1, Ev.congr (f := fun _ => some (-1)) (fun k => ?_) (Ev.now _), fun h => by omega⟩
      simp only [laws_szOpS.f]
      rw [hw, if_pos h]
    · obtain ⟨r, h1, h2⟩ := key L.length 0 (1048576 - (L.length : Int)) (by omega) (by omega) (by omega) (by omega)
      refine ⟨r, Ev.congr (fun k => ?_) h1, fun hr => ⟨by omega, fun x hx => ?_⟩⟩
      · simp only [laws_szOpS.f]
        rw [hw, if_neg h]
        rfl
      · obtain ⟨j, hj, rfl⟩ := List.getElem_of_mem hx
        have := h2 hr j (by omega) hj
        rwa [List.getD, List.getElem?_eq_getElem hj] at this
  obtain ⟨r, h1, h2⟩ := top
  by_cases h : r < 0
  · refine ⟨-1, Ev.bind h1 (Ev.congr (fun _ => if_pos h) (Ev.now _)), fun h => by omega⟩
  · exact ⟨r, Ev.bind h1 (Ev.congr (fun _ => if_neg h) (Ev.now _)), h2⟩

theorem toIntS_ev (l : List Int) (hl : l.length ≤ 35184372088832) : Ev (fun k => laws_toIntS.f k l) l := by
  have key : ∀ (d i : Nat) (out : List Int), i + d = l.length → out.length = l.length → out.take i = l.take i → Ev (fun k => laws_toIntS.l0 k l out i) l := by
    intro d
    induction d with
    | zero =>
      intro i out hd ho ht
      rw [List.take_of_length_le (by omega), List.take_of_length_le (by omega)] at ht
      subst ht
      refine Ev.step (f := fun _ => some out) (fun k => ?_) (Ev.now _)
      simp only [laws_toIntS.l0]
      rw [if_neg (by omega)]
    | succ d ih =>
      intro i out hd ho ht
      refine Ev.step (f := fun k => laws_toIntS.l0 k l (out.set i (rd l i)) ((i + 1 : Nat) : Int)) (fun k => ?_) (ih (i + 1) _ (by omega) (by simp [ho]) (set_take l out i _ (by omega) ho ht ?_))
      · simp only [laws_toIntS.l0]
        rw [if_pos (by omega), if_pos (by omega), if_pos (by omega), wrap_succ i (by omega), Int.toNat_natCast]
      · rw [rd_get l i (by omega), List.getElem?_eq_getElem (by omega)]
  refine Ev.congr (fun k => ?_) (key l.length 0 (List.replicate l.length 0) (by omega) (by simp) (by simp))
  simp only [laws_toIntS.f]
  rw [if_pos (by omega), if_pos (by omega), Int.toNat_natCast]
  rfl
theorem eqIntS_ev (l : List Int) (hl : l.length ≤ 35184372088832) : Ev (fun k => laws_eqIntS.f k l l) true := by
  have key : ∀ (d i : Nat), i + d = l.length → Ev (fun k => laws_eqIntS.l0 k l l i) true := by
    intro d
    induction d with
    | zero =>
      intro i hd
      refine Ev.step (f := fun _ => some true) (fun k => ?_) (Ev.now _)
      simp only [laws_eqIntS.l0]
      rw [if_neg (by omega)]
    | succ d ih =>
      intro i hd
      refine Ev.step (f := fun k => laws_eqIntS.l0 k l l ((i + 1 : Nat) : Int)) (fun k => ?_) (ih (i + 1) (by omega))
      simp only [laws_eqIntS.l0]
      rw [if_pos (by omega), if_pos (by omega), if_pos (by omega), if_pos trivial, wrap_succ i (by omega)]
  refine Ev.congr (fun k => ?_) (key l.length 0 (by omega))
  simp only [laws_eqIntS.f]
  rw [if_pos trivial]
  rfl
def cv (x : SA) : SB := ⟨x.f0, x.f1, x.f2, x.f3⟩
theorem toOp_ev (x : SA) (hs : x.f1.length ≤ 1048576) : Ev (fun k => laws_toOp.f k x.f0 x.f1 x.f2 x.f3) (x.f0, x.f1, x.f2, x.f3) := Ev.bind (toIntS_ev x.f1 (by omega)) (Ev.now _)
theorem toOpS_ev (L : List SA) (hL : L.length ≤ 1048576) (hs : ∀ x ∈ L, x.f1.length ≤ 1048576) : Ev (fun k => laws_toOpS.f k L) (L.map cv) := by
  have hm : (L.map cv).length = L.length := List.length_map _
  have key : ∀ (d i : Nat) (out : List SB), i + d = L.length → out.length = L.length → out.take i = (L.map cv).take i → Ev (fun k => laws_toOpS.l0 k L out i) (L.map cv) := by
    intro d
    induction d with
    | zero =>
      intro i out hd ho ht
      rw [List.take_of_length_le (by omega), List.take_of_length_le (by omega)] at ht
      subst ht
      refine Ev.step (f := fun _ => some (L.map cv)) (fun k => ?_) (Ev.now _)
      simp only [laws_toOpS.l0]
      rw [if_neg (by omega)]
    | succ d ih =>
      intro i out hd ho ht
      obtain ⟨K1, g1⟩ := toOp_ev (L.getD i zA) (hs _ (getA_mem L i (by omega)))
      obtain ⟨K2, g2⟩ := ih (i + 1) (out.set i (cv (L.getD i zA))) (by omega) (by simp [ho]) (set_take (L.map cv) out i _ (by omega) (by omega) ht (by rw [List.getElem?_map, List.getD, List.getElem?_eq_getElem (show i < L.length by omega)]; rfl))
      refine ⟨K1 + K2 + 1, fun n hn => ?_⟩
      obtain ⟨n, rfl⟩ : ∃ m, n = m + 1 := ⟨n - 1, by omega⟩
      have g1' := g1 n (by omega)
      have g2' := g2 n (by omega)
      simp only at g1' g2'
      simp only [laws_toOpS.l0]
      rw [if_pos (by omega), if_pos (by omega), rdA, g1', Option.bind_some, if_pos (by omega), wrap_succ i (by omega), Int.toNat_natCast]
      exact g2'
  refine Ev.congr (fun k => ?_) (key L.length 0 (List.replicate L.length z96) (by omega) (by simp) (by simp))
  simp only [laws_toOpS.f]
  rw [if_pos (by omega), if_pos (by omega), Int.toNat_natCast]
  rfl
theorem toPattern_ev (b0 b1 : Bool) (L : List SA) (hL : L.length ≤ 1048576) (hs : ∀ x ∈ L, x.f1.length ≤ 1048576) : Ev (fun k => laws_toPattern.f k b0 b1 L) (b0, b1, L.map cv) := Ev.bind (toOpS_ev L hL hs) (Ev.now _)
theorem eqOpS_ev (L : List SB) (hL : L.length ≤ 1048576) (hs : ∀ x ∈ L, x.f1.length ≤ 1048576) : Ev (fun k => laws_eqOpS.f k L L) true := by
  have key : ∀ (d i : Nat), i + d = L.length → Ev (fun k => laws_eqOpS.l0 k L L i) true := by
    intro d
    induction d with
    | zero =>
      intro i hd
      refine Ev.step (f := fun _ => some true) (fun k => ?_) (Ev.now _)
      simp only [laws_eqOpS.l0]
      rw [if_neg (by omega)]
    | succ d ih =>
      intro i hd
      obtain ⟨K1, g1⟩ := eqIntS_ev (rd_T96 L i).f1 (by
        have := hs (L.getD i z96) (by rw [List.getD, List.getElem?_eq_getElem (show i < L.length by omega)]; exact List.getElem_mem _)
        rw [rdT]
        omega)
      obtain ⟨K2, g2⟩ := ih (i + 1) (by omega)
      refine ⟨K1 + K2 + 1, fun n hn => ?_⟩
      obtain ⟨n, rfl⟩ : ∃ m, n = m + 1 := ⟨n - 1, by omega⟩
      have g1' := g1 n (by omega)
      have g2' := g2 n (by omega)
      simp only at g1' g2'
      have ho : laws_eqOp.f n (rd_T96 L i).f0 (rd_T96 L i).f1 (rd_T96 L i).f2 (rd_T96 L i).f3 (rd_T96 L i).f0 (rd_T96 L i).f1 (rd_T96 L i).f2 (rd_T96 L i).f3 = some true := by
        unfold laws_eqOp.f
        rw [if_pos rfl, g1', Option.bind_some, if_pos rfl, if_pos rfl, if_pos rfl]
      simp only [laws_eqOpS.l0]
      rw [if_pos (by omega), if_pos (by omega), if_pos (by omega), ho, Option.bind_some, if_pos rfl, wrap_succ i (by omega), g2']
  refine Ev.congr (fun k => ?_) (key L.length 0 (by omega))
  simp only [laws_eqOpS.f]
  rw [if_pos trivial]
  rfl
theorem eqPattern_ev (b0 b1 : Bool) (L : List SB) (hL : L.length ≤ 1048576) (hs : ∀ x ∈ L, x.f1.length ≤ 1048576) : Ev (fun k => laws_eqPattern.f k b0 b1 L b0 b1 L) true := by
  refine Ev.congr (f := fun k => (laws_eqOpS.f k L L).bind fun t => if t = true then some true else some false) (fun k => ?_) (Ev.bind (eqOpS_ev L hL hs) (Ev.now _))
  unfold laws_eqPattern.f
  rw [if_neg (by simp), if_neg (by simp)]
theorem pure (b0 b1 : Bool) (L : List SA) (hL : L.length ≤ 9223372036854775807) (hs : ∀ x ∈ L, x.f1.length ≤ 9223372036854775807) : ∃ k, laws_FnExactValidPattern.f k b0 b1 L = some true := by
  refine Ev.rounds ?_
  obtain ⟨r, h1, h2⟩ := sz_ev b0 b1 L hL hs
  refine Ev.bind h1 ?_
  by_cases h : r < 0
  · exact Ev.congr (fun _ => if_pos h) (Ev.now _)
  · obtain ⟨m1, m2⟩ := h2 (by omega)
    have hm : (L.map cv).length ≤ 1048576 := by rw [List.length_map]; exact m1
    have hms : ∀ x ∈ L.map cv, x.f1.length ≤ 1048576 := by
      intro x hx
      obtain ⟨y, hy, rfl⟩ := List.mem_map.1 hx
      exact m2 y hy
    have hv : validP ((L.map cv).map o4) = validP ((L.map cv).map fun x => (x.f0, x.f1, x.f2, x.f3)) := rfl
    refine Ev.congr (fun _ => if_neg h) ?_
    refine Ev.bind (toPattern_ev b0 b1 L m1 m2) ?_
    refine Ev.bind (g := fun k => spec_ValidPattern.f k b0 b1 (L.map cv)) (Ev.bind (valid_ev (L.map cv) hm hms) (Ev.now _)) ?_
    refine Ev.bind (toPattern_ev b0 b1 L m1 m2) ?_
    refine Ev.bind (g := fun _ => impl_ValidPattern.f b0 b1 (L.map cv)) (Ev.congr (fun _ => rfl) (Ev.now (validP ((L.map cv).map o4)))) ?_
    refine Ev.congr (fun _ => if_neg (by simp)) ?_
    refine Ev.bind (toPattern_ev b0 b1 L m1 m2) ?_
    refine Ev.bind (eqPattern_ev b0 b1 (L.map cv) hm hms) ?_
    exact Ev.now _
end Go.Proofs.Ytnpmkcbbmeekaaa.PValid
