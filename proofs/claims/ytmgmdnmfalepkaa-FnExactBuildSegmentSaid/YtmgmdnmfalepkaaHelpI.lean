import Derived.Test.YtmgmdnmfalepkaaTy
import Derived.Test.YtmgmdnmfalepkaaLin
namespace Go.Proofs.Ytmgmdnmfalepkaa.HelpI
open Go.RowKit Go.Proofs.YtmgmdnmfalepkaaW.PrintWords Go.Proofs.YtmgmdnmfalepkaaW.PrintMore Go.Proofs.Ytmgmdnmfalepkaa.Kit Go.Proofs.Ytmgmdnmfalepkaa.PKit Go.Proofs.Ytmgmdnmfalepkaa.Ty
open Go.Proofs.Ytmgmdnmfalepkaa.L
set_option linter.unusedVariables false
abbrev tI : Ty (List Int) := Ty.row (Kd.int .i64) 3
def markI (a : Int) : List Int → List Int
  | [] => []
  | _ :: r => (a) :: markI (a + 1) r
abbrev cntI (x : List Int) : Nat := x.length
abbrev bdI (x : List Int) : Prop := x.length ≤ 1099511627776
abbrev smallI (x : List Int) : Prop := x.length ≤ 1048576
theorem bd_small {x : List Int} (h : smallI x) : bdI x := Nat.le_trans h (by decide)
theorem cnt_small {x : List Int} (h : smallI x) : cntI x ≤ 1048576 := h
theorem to_ev (l : List Int) (hl : l.length ≤ 35184372088832) : Ev (fun k => laws_toIntS.f k l) l := by
  have key : ∀ (d i : Nat) (out : List Int), i + d = l.length → out.length = l.length → out.take i = l.take i → Ev (fun k => laws_toIntS.l0 k l out i) l := by
    intro d
    induction d with
    | zero =>
      intro i out hd ho ht
      rw [List.take_of_length_le (by omega), List.take_of_length_le (by omega)] at ht
      subst ht
      refine Ev.step (f := fun _ => some out) (fun k => ?_) (Ev.now _)
      simp only [laws_toIntS.l0]
      rw [if_neg (by omega)]
    | succ d ih =>
      intro i out hd ho ht
      refine Ev.step (f := fun k => laws_toIntS.l0 k l (out.set i (rd l i)) ((i + 1 : Nat) : Int)) (fun k => ?_) (ih (i + 1) _ (by omega) (by simp [ho]) (set_take l out i _ (by omega) ho ht ?_))
      · simp only [laws_toIntS.l0]
        rw [if_pos (by omega), if_pos (by omega), if_pos (by omega), wrap_succ i (by omega), Int.toNat_natCast]
      · rw [rd_get l i (by omega), List.getElem?_eq_getElem (by omega)]
  refine Ev.congr (fun k => ?_) (key l.length 0 (List.replicate l.length 0) (by omega) (by simp) (by simp))
  simp only [laws_toIntS.f]
  rw [if_pos (by omega), if_pos (by omega), Int.toNat_natCast]
  rfl
theorem eq_ev (l : List Int) (hl : l.length ≤ 35184372088832) : Ev (fun k => laws_eqIntS.f k l l) true := by
  have key : ∀ (d i : Nat), i + d = l.length → Ev (fun k => laws_eqIntS.l0 k l l i) true := by
    intro d
    induction d with
    | zero =>
      intro i hd
      refine Ev.step (f := fun _ => some true) (fun k => ?_) (Ev.now _)
      simp only [laws_eqIntS.l0]
      rw [if_neg (by omega)]
    | succ d ih =>
      intro i hd
      refine Ev.step (f := fun k => laws_eqIntS.l0 k l l ((i + 1 : Nat) : Int)) (fun k => ?_) (ih (i + 1) (by omega))
      simp only [laws_eqIntS.l0]
      rw [if_pos (by omega), if_pos (by omega), if_pos (by omega), if_pos trivial, wrap_succ i (by omega)]
  refine Ev.congr (fun k => ?_) (key l.length 0 (by omega))
  simp only [laws_eqIntS.f]
  rw [if_pos trivial]
  rfl
theorem mark_ev (l : List Int) (a : Int) (a0 : 0 ≤ a) (a1 : a + l.length ≤ 1099511627776) : Ev (fun k => laws_markIntS.f k l a) (a + l.length, markI a l) := by
  have key : ∀ (r : List Int) (p : List Int) (b : Int), 0 ≤ b → b + r.length ≤ 1099511627776 → p.length + r.length ≤ 1099511627776 → Ev (fun k => laws_markIntS.l0 k (p ++ r) b (p.length : Int)) (b + r.length, p ++ markI b r) := by
    intro r
    induction r with
    | nil =>
      intro p b b0 b1 hp
      refine Ev.step (f := fun _ => some (b, p)) (fun k => ?_) ?_
      · simp only [laws_markIntS.l0]
        rw [if_neg (by simp), List.append_nil]
      · have e : (b + ((([] : List Int).length : Nat) : Int), p ++ markI b []) = (b, p) := by simp [markI]
        rw [e]
        exact Ev.now _
    | cons x r ih =>
      intro p b b0 b1 hp
      simp only [List.length_cons] at b1 hp
      have h := ih (p ++ [b]) (b + 1) (by omega) (by omega) (by simp; omega)
      have e : (b + 1 + (r.length : Int), p ++ [b] ++ markI (b + 1) r) = (b + (((x :: r).length : Nat) : Int), p ++ markI b (x :: r)) := by
        simp only [markI, List.length_cons, List.append_assoc, List.singleton_append]
        congr 1
        omega
      rw [e] at h
      refine Ev.step (fun k => ?_) h
      simp only [laws_markIntS.l0]
      rw [if_pos (by simp; omega), if_pos (by omega), Int.toNat_natCast, wrap_in (x := b + 1) (by omega), wrap_succ _ (by omega)]
      have e2 : (p ++ x :: r).set p.length (b) = p ++ [b] ++ r := by
        rw [List.set_append_right _ _ (Nat.le_refl _), Nat.sub_self]
        simp
      rw [e2]
      simp only [List.length_append, List.length_cons, List.length_nil]
  have h := key l [] a a0 a1 (by simp; omega)
  exact Ev.congr (fun k => by simp only [laws_markIntS.f]; rfl) h
theorem held_ev (l : List Int) (a : Int) (a0 : 0 ≤ a) (a1 : a + l.length ≤ 1099511627776) : Ev (fun k => laws_heldIntS.f k (markI a l) a) (a + l.length) := by
  have key : ∀ (r : List Int) (p : List Int) (b : Int), 0 ≤ b → b + r.length ≤ 1099511627776 → p.length + r.length ≤ 1099511627776 → Ev (fun k => laws_heldIntS.l0 k (p ++ markI b r) b (p.length : Int)) (b + r.length) := by
    intro r
    induction r with
    | nil =>
      intro p b b0 b1 hp
      have e : (b + ((([] : List Int).length : Nat) : Int)) = b := by simp
      rw [e]
      refine Ev.step (f := fun _ => some b) (fun k => ?_) (Ev.now _)
      simp only [laws_heldIntS.l0]
      rw [if_neg (by simp [markI])]
    | cons x r ih =>
      intro p b b0 b1 hp
      simp only [List.length_cons] at b1 hp
      have h := ih (p ++ [b]) (b + 1) (by omega) (by omega) (by simp; omega)
      have e : (b + 1 + (r.length : Int)) = (b + (((x :: r).length : Nat) : Int)) := by simp only [List.length_cons]; omega
      rw [e, List.append_assoc] at h
      refine Ev.step (fun k => ?_) h
      simp only [laws_heldIntS.l0]
      have hg : rd (p ++ markI b (x :: r)) (p.length : Int) = b := by simp [rd, markI]
      rw [if_pos (by simp [markI]; omega), if_pos (by omega), hg, if_pos rfl, wrap_in (x := b + 1) (by omega), wrap_succ _ (by omega)]
      simp only [List.length_append, List.length_cons, List.length_nil]
      rfl
  have h := key l [] a a0 a1 (by simp; omega)
  exact Ev.congr (fun k => by simp only [laws_heldIntS.f]; rfl) h
theorem to_calls (x : List Int) (v : Value) (w : World) (h : tI.K w x v) (hl : bdI x) :
    Calls Try.prog 65 #[v] w fun e w' => ∃ v', e = .returned v' ∧ tI.M w' w.heap.size (fun _ => True) x v' ∧ Grew w w' := by
  obtain ⟨A, c, rfl, hc, hr⟩ := h
  obtain ⟨k, hk⟩ := (to_ev x (by omega)).rounds
  exact laws_toIntS.calls k A c x x w hr hc hk
theorem eq_calls (x : List Int) (v v' : Value) (w : World) (h : tI.K w x v) (h' : tI.K w x v') (hl : bdI x) :
    Calls Try.prog 22 #[v, v'] w fun e w' => e = .returned (.bool true) ∧ Grew w w' := by
  obtain ⟨A, c, rfl, hc, hr⟩ := h
  obtain ⟨A', c', rfl, hc', hr'⟩ := h'
  obtain ⟨k, hk⟩ := (eq_ev x (by omega)).rounds
  refine (laws_eqIntS.calls k A c x A' c' x true w hr hc hr' hc' hk).mono ?_
  rintro e w' ⟨rfl, h2⟩
  exact ⟨rfl, h2.below⟩
theorem mark_calls (x : List Int) (v : Value) (ok : Nat → Prop) (a : Int) (w0 w : World) (hB : Below w0.heap.size w0 w) (h : tI.M w w0.heap.size ok x v) (a0 : 0 ≤ a) (a1 : a + cntI x ≤ 1099511627776) (_hl : bdI x) :
    Calls Try.prog 25 #[v, .int .i64 a] w fun e w' => e = .returned (.int .i64 (a + cntI x)) ∧ tI.M w' w0.heap.size ok (markI a x) v ∧ Below w0.heap.size w0 w' ∧ Kept w w' ok := by
  obtain ⟨k, hk⟩ := (mark_ev x a a0 a1).rounds
  have h : Kd.R (Kd.int .i64) 3 w w0.heap.size ok v x := h
  refine (laws_markIntS.calls k ok v x a _ _ w0 w hB h hk).mono ?_
  rintro e w' ⟨rfl, h1, h2, h3⟩
  refine ⟨rfl, ?_, h2, h3⟩
  exact Kd.R_mono (Kd.R_tight rfl h1) (fun k hk => h.1 k hk.symm)
theorem held_calls (x : List Int) (v : Value) (a : Int) (w : World) (h : tI.K w (markI a x) v) (a0 : 0 ≤ a) (a1 : a + cntI x ≤ 1099511627776) (_hl : bdI x) :
    Calls Try.prog 26 #[v, .int .i64 a] w fun e w' => e = .returned (.int .i64 (a + cntI x)) ∧ Grew w w' := by
  obtain ⟨A, c, rfl, hc, hr⟩ := h
  obtain ⟨k, hk⟩ := (held_ev x a a0 a1).rounds
  refine (laws_heldIntS.calls k A c (markI a x) a _ w hr hc hk).mono ?_
  rintro e w' ⟨rfl, h2⟩
  exact ⟨rfl, h2.below⟩
end Go.Proofs.Ytmgmdnmfalepkaa.HelpI
