/- FnExactRunDFA's pure statement: the law's pure function answers true at every table and line. -/
import Derived.Test.YtnpmkcbbmeekaaaPLaw
import Derived.Test.YtnpmkcbbmeekaaaQx12
namespace Go.Proofs.Ytnpmkcbbmeekaaa.PRunD
open Go.RowKit Go.Proofs.YtnpmkcbbmeekaaaW.PrintWords Go.Proofs.Ytnpmkcbbmeekaaa.PKit Go.Proofs.Ytnpmkcbbmeekaaa.PLaw Go.Proofs.Ytnpmkcbbmeekaaa.Q

theorem toByteS_ev (l : List Int) (hl : l.length ≤ 35184372088832) : Ev (fun k => laws_toByteS.f k l) l := by
  have key : ∀ (d i : Nat) (out : List Int), i + d = l.length → out.length = l.length → out.take i = l.take i → Ev (fun k => laws_toByteS.l0 k l out i) l := by
    intro d
    induction d with
    | zero =>
      intro i out hd ho ht
      rw [List.take_of_length_le (by omega), List.take_of_length_le (by omega)] at ht
      subst ht
      refine Ev.step (f := fun _ => some out) (fun k => ?_) (Ev.now _)
      simp only [laws_toByteS.l0]
      rw [if_neg (by omega)]
    | succ d ih =>
      intro i out hd ho ht
      refine Ev.step (f := fun k => laws_toByteS.l0 k l (out.set i (rd l i)) ((i + 1 : Nat) : Int)) (fun k => ?_) (ih (i + 1) _ (by omega) (by simp [ho]) (set_take l out i _ (by omega) ho ht ?_))
      · simp only [laws_toByteS.l0]
        rw [if_pos (by omega), if_pos (by omega), if_pos (by omega), wrap_succ i (by omega), Int.toNat_natCast]
      · rw [rd_get l i (by omega), List.getElem?_eq_getElem (by omega)]
  refine Ev.congr (fun k => ?_) (key l.length 0 (List.replicate l.length 0) (by omega) (by simp) (by simp))
  simp only [laws_toByteS.f]
  rw [if_pos (by omega), if_pos (by omega), Int.toNat_natCast]
  rfl
theorem rdb_get (l : List Bool) (i : Nat) (h : i < l.length) : rdOf false l (i : Int) = l[i] := by
  simp [rdOf, List.getD, List.getElem?_eq_getElem h]
theorem toBoolS_ev (l : List Bool) (hl : l.length ≤ 35184372088832) : Ev (fun k => laws_toBoolS.f k l) l := by
  have key : ∀ (d i : Nat) (out : List Bool), i + d = l.length → out.length = l.length → out.take i = l.take i → Ev (fun k => laws_toBoolS.l0 k l out i) l := by
    intro d
    induction d with
    | zero =>
      intro i out hd ho ht
      rw [List.take_of_length_le (by omega), List.take_of_length_le (by omega)] at ht
      subst ht
      refine Ev.step (f := fun _ => some out) (fun k => ?_) (Ev.now _)
      simp only [laws_toBoolS.l0]
      rw [if_neg (by omega)]
    | succ d ih =>
      intro i out hd ho ht
      refine Ev.step (f := fun k => laws_toBoolS.l0 k l (out.set i (rdOf false l i)) ((i + 1 : Nat) : Int)) (fun k => ?_) (ih (i + 1) _ (by omega) (by simp [ho]) (set_take l out i _ (by omega) ho ht ?_))
      · simp only [laws_toBoolS.l0]
        rw [if_pos (by omega), if_pos (by omega), if_pos (by omega), wrap_succ i (by omega), Int.toNat_natCast]
      · rw [rdb_get l i (by omega), List.getElem?_eq_getElem (by omega)]
  refine Ev.congr (fun k => ?_) (key l.length 0 (List.replicate l.length false) (by omega) (by simp) (by simp))
  simp only [laws_toBoolS.f]
  rw [if_pos (by omega), if_pos (by omega), Int.toNat_natCast]
  rfl
theorem toDFA_ev (a : List Int) (k : Int) (b : List Int) (c : List Bool) (ha : a.length ≤ 1048576) (hb : b.length ≤ 1048576) (hc : c.length ≤ 1048576) : Ev (fun n => laws_toDFA.f n a k b c) (a, k, b, c) :=
  Ev.bind (toIntS_ev a (by omega)) (Ev.bind (toIntS_ev b (by omega)) (Ev.bind (toBoolS_ev c (by omega)) (Ev.now _)))
theorem eqByteS_ev (l : List Int) (hl : l.length ≤ 35184372088832) : Ev (fun k => laws_eqByteS.f k l l) true := by
  have key : ∀ (d i : Nat), i + d = l.length → Ev (fun k => laws_eqByteS.l0 k l l i) true := by
    intro d
    induction d with
    | zero =>
      intro i hd
      refine Ev.step (f := fun _ => some true) (fun k => ?_) (Ev.now _)
      simp only [laws_eqByteS.l0]
      rw [if_neg (by omega)]
    | succ d ih =>
      intro i hd
      refine Ev.step (f := fun k => laws_eqByteS.l0 k l l ((i + 1 : Nat) : Int)) (fun k => ?_) (ih (i + 1) (by omega))
      simp only [laws_eqByteS.l0]
      rw [if_pos (by omega), if_pos (by omega), if_pos (by omega), if_pos trivial, wrap_succ i (by omega)]
  refine Ev.congr (fun k => ?_) (key l.length 0 (by omega))
  simp only [laws_eqByteS.f]
  rw [if_pos trivial]
  rfl
theorem eqBoolS_ev (l : List Bool) (hl : l.length ≤ 35184372088832) : Ev (fun k => laws_eqBoolS.f k l l) true := by
  have key : ∀ (d i : Nat), i + d = l.length → Ev (fun k => laws_eqBoolS.l0 k l l i) true := by
    intro d
    induction d with
    | zero =>
      intro i hd
      refine Ev.step (f := fun _ => some true) (fun k => ?_) (Ev.now _)
      simp only [laws_eqBoolS.l0]
      rw [if_neg (by omega)]
    | succ d ih =>
      intro i hd
      refine Ev.step (f := fun k => laws_eqBoolS.l0 k l l ((i + 1 : Nat) : Int)) (fun k => ?_) (ih (i + 1) (by omega))
      simp only [laws_eqBoolS.l0]
      rw [if_pos (by omega), if_pos (by omega), if_pos (by omega), if_neg (by simp), wrap_succ i (by omega)]
  refine Ev.congr (fun k => ?_) (key l.length 0 (by omega))
  simp only [laws_eqBoolS.f]
  rw [if_pos trivial]
  rfl
theorem eqDFA_ev (a : List Int) (k : Int) (b : List Int) (c : List Bool) (ha : a.length ≤ 1048576) (hb : b.length ≤ 1048576) (hc : c.length ≤ 1048576) : Ev (fun n => laws_eqDFA.f n a k b c a k b c) true := by
  refine Ev.bind (eqIntS_ev a (by omega)) (Ev.congr (fun _ => if_pos rfl) (Ev.congr (fun _ => if_pos rfl) (Ev.bind (eqIntS_ev b (by omega)) (Ev.congr (fun _ => if_pos rfl) (Ev.bind (eqBoolS_ev c (by omega)) (Ev.congr (fun _ => if_pos rfl) (Ev.now _)))))))
/-- What marking leaves. -/
def marks (a : Int) (n : Nat) : List Int := (List.range n).map fun j : Nat => a + (j : Int)
theorem markIntS_ev (l : List Int) (a : Int) (ha : 0 ≤ a) (hb : a + l.length ≤ 4611686018427387904) : Ev (fun k => laws_markIntS.f k l a) (a + l.length, marks a l.length) := by
  have key : ∀ (d i : Nat) (x : List Int), i + d = l.length → x.length = l.length → x.take i = (marks a l.length).take i → Ev (fun k => laws_markIntS.l0 k x (a + i) i) (a + l.length, marks a l.length) := by
    intro d
    induction d with
    | zero =>
      intro i x hd hx ht
      rw [List.take_of_length_le (by omega), List.take_of_length_le (by simp [marks]; omega)] at ht
      have e : (i : Int) = l.length := by omega
      rw [← ht, e]
      refine Ev.step (f := fun _ => some (a + (l.length : Int), x)) (fun k => ?_) (Ev.now _)
      simp only [laws_markIntS.l0]
      rw [if_neg (by omega)]
    | succ d ih =>
      intro i x hd hx ht
      have hw : wrap64 (a + (i : Int) + 1) = a + ((i + 1 : Nat) : Int) := by rw [wrap_in (by omega)]; omega
      refine Ev.step (f := fun k => laws_markIntS.l0 k (x.set i (a + i)) (a + ((i + 1 : Nat) : Int)) ((i + 1 : Nat) : Int)) (fun k => ?_) (ih (i + 1) _ (by omega) (by simp [hx]) ?_)
      · simp only [laws_markIntS.l0]
        rw [if_pos (by omega), if_pos (by omega), wrap_succ i (by omega), hw, Int.toNat_natCast]
      · refine set_take _ _ i _ (by simp [marks]; omega) (by simp [marks, hx]) ht ?_
        simp [marks, List.getElem?_range (show i < l.length by omega)]
  refine Ev.congr (fun k => ?_) (key l.length 0 l (by omega) rfl (by simp))
  simp only [laws_markIntS.f]
  rw [show a + ((0 : Nat) : Int) = a from by omega]
  rfl
theorem markByteS_ev (l : List Int) (a : Int) (ha : 0 ≤ a) (hb : a + l.length ≤ 4611686018427387904) : ∃ x, Ev (fun k => laws_markByteS.f k l a) (a + l.length, x) := by
  have key : ∀ (d i : Nat) (x : List Int), i + d = l.length → x.length = l.length → ∃ y, Ev (fun k => laws_markByteS.l0 k x (a + i) i) (a + l.length, y) := by
    intro d
    induction d with
    | zero =>
      intro i x hd hx
      have e : (i : Int) = l.length := by omega
      refine ⟨x, ?_⟩
      rw [e]
      refine Ev.step (f := fun _ => some (a + (l.length : Int), x)) (fun k => ?_) (Ev.now _)
      simp only [laws_markByteS.l0]
      rw [if_neg (by omega)]
    | succ d ih =>
      intro i x hd hx
      have hw : wrap64 (a + (i : Int) + 1) = a + ((i + 1 : Nat) : Int) := by rw [wrap_in (by omega)]; omega
      obtain ⟨y, hy⟩ := ih (i + 1) (x.set i ((a + i) % 256)) (by omega) (by simp [hx])
      refine ⟨y, Ev.step (fun k => ?_) hy⟩
      simp only [laws_markByteS.l0]
      rw [if_pos (by omega), if_pos (by omega), wrap_succ i (by omega), hw, Int.toNat_natCast]
  obtain ⟨y, hy⟩ := key l.length 0 l (by omega) rfl
  refine ⟨y, Ev.congr (fun k => ?_) hy⟩
  simp only [laws_markByteS.f]
  rw [show a + ((0 : Nat) : Int) = a from by omega]
  rfl
theorem markBoolS_ev (l : List Bool) (a : Int) (ha : 0 ≤ a) (hb : a + l.length ≤ 4611686018427387904) : ∃ x, Ev (fun k => laws_markBoolS.f k l a) (a + l.length, x) := by
  have key : ∀ (d i : Nat) (x : List Bool), i + d = l.length → x.length = l.length → ∃ y, Ev (fun k => laws_markBoolS.l0 k x (a + i) i) (a + l.length, y) := by
    intro d
    induction d with
    | zero =>
      intro i x hd hx
      have e : (i : Int) = l.length := by omega
      refine ⟨x, ?_⟩
      rw [e]
      refine Ev.step (f := fun _ => some (a + (l.length : Int), x)) (fun k => ?_) (Ev.now _)
      simp only [laws_markBoolS.l0]
      rw [if_neg (by omega)]
    | succ d ih =>
      intro i x hd hx
      have hw : wrap64 (a + (i : Int) + 1) = a + ((i + 1 : Nat) : Int) := by rw [wrap_in (by omega)]; omega
      obtain ⟨y, hy⟩ := ih (i + 1) (x.set i ((Int.tmod (a + i) 3) == 0)) (by omega) (by simp [hx])
      refine ⟨y, Ev.step (fun k => ?_) hy⟩
      simp only [laws_markBoolS.l0]
      rw [if_pos (by omega), if_pos (by omega), wrap_succ i (by omega), hw, Int.toNat_natCast]
  obtain ⟨y, hy⟩ := key l.length 0 l (by omega) rfl
  refine ⟨y, Ev.congr (fun k => ?_) hy⟩
  simp only [laws_markBoolS.f]
  rw [show a + ((0 : Nat) : Int) = a from by omega]
  rfl
theorem markDFA_ev (a : List Int) (k : Int) (b : List Int) (c : List Bool) (ha : a.length ≤ 1048576) (hb : b.length ≤ 1048576) (hc : c.length ≤ 1048576) : ∃ m x y z, Ev (fun n => laws_markDFA.f n a k b c 1) (m, x, y, z) ∧ 0 ≤ m ∧ m ≤ 4194304 := by
  obtain ⟨z, hz⟩ := markBoolS_ev c (1 + a.length + b.length) (by omega) (by omega)
  refine ⟨1 + a.length + b.length + c.length, _, _, z, Ev.bind (markIntS_ev a 1 (by omega) (by omega)) (Ev.bind (markIntS_ev b (1 + a.length) (by omega) (by omega)) (Ev.bind hz (Ev.now _))), by omega, by omega⟩
theorem heldIntS_ev (n : Nat) (a : Int) (ha : 0 ≤ a) (hb : a + n ≤ 4611686018427387904) : Ev (fun k => laws_heldIntS.f k (marks a n) a) (a + n) := by
  have hlen : (marks a n).length = n := by simp [marks]
  have key : ∀ (d i : Nat), i + d = n → Ev (fun k => laws_heldIntS.l0 k (marks a n) (a + i) i) (a + n) := by
    intro d
    induction d with
    | zero =>
      intro i hd
      have e : (i : Int) = n := by omega
      rw [e]
      refine Ev.step (f := fun _ => some (a + (n : Int))) (fun k => ?_) (Ev.now _)
      simp only [laws_heldIntS.l0]
      rw [if_neg (by omega)]
    | succ d ih =>
      intro i hd
      have hw : wrap64 (a + (i : Int) + 1) = a + ((i + 1 : Nat) : Int) := by rw [wrap_in (by omega)]; omega
      refine Ev.step (f := fun k => laws_heldIntS.l0 k (marks a n) (a + ((i + 1 : Nat) : Int)) ((i + 1 : Nat) : Int)) (fun k => ?_) (ih (i + 1) (by omega))
      simp only [laws_heldIntS.l0]
      rw [if_pos (by omega), if_pos (by omega), rd_get _ i (by omega), if_pos (by simp [marks]), wrap_succ i (by omega), hw]
  refine Ev.congr (fun k => ?_) (key n 0 (by omega))
  simp only [laws_heldIntS.f]
  rw [show a + ((0 : Nat) : Int) = a from by omega]
  rfl
end Go.Proofs.Ytnpmkcbbmeekaaa.PRunD
