import Derived.Test.YtmgmdnmfalepkaaTy
import Derived.Test.YtmgmdnmfalepkaaLby
namespace Go.Proofs.Ytmgmdnmfalepkaa.HelpB
open Go.RowKit Go.Proofs.YtmgmdnmfalepkaaW.PrintWords Go.Proofs.YtmgmdnmfalepkaaW.PrintMore Go.Proofs.Ytmgmdnmfalepkaa.Kit Go.Proofs.Ytmgmdnmfalepkaa.PKit Go.Proofs.Ytmgmdnmfalepkaa.Ty
open Go.Proofs.Ytmgmdnmfalepkaa.L
set_option linter.unusedVariables false
abbrev tB : Ty (List Int) := Ty.row (Kd.int .u8) 5
def markB (a : Int) : List Int → List Int
  | [] => []
  | _ :: r => (a % 256) :: markB (a + 1) r
abbrev cntB (x : List Int) : Nat := x.length
abbrev bdB (x : List Int) : Prop := x.length ≤ 1099511627776
abbrev smallB (x : List Int) : Prop := x.length ≤ 1048576
theorem bd_small {x : List Int} (h : smallB x) : bdB x := Nat.le_trans h (by decide)
theorem cnt_small {x : List Int} (h : smallB x) : cntB x ≤ 1048576 := h
theorem to_ev (l : List Int) (hl : l.length ≤ 35184372088832) : Ev (fun k => laws_toByteS.f k l) l := by
  have key : ∀ (d i : Nat) (out : List Int), i + d = l.length → out.length = l.length → out.take i = l.take i → Ev (fun k => laws_toByteS.l0 k l out i) l := by
    intro d
    induction d with
    | zero =>
      intro i out hd ho ht
      rw [List.take_of_length_le (by omega), List.take_of_length_le (by omega)] at ht
      subst ht
      refine Ev.step (f := fun _ => some out) (fun k => ?_) (Ev.now _)
      simp only [laws_toByteS.l0]
      rw [if_neg (by omega)]
    | succ d ih =>
      intro i out hd ho ht
      refine Ev.step (f := fun k => laws_toByteS.l0 k l (out.set i (rd l i)) ((i + 1 : Nat) : Int)) (fun k => ?_) (ih (i + 1) _ (by omega) (by simp [ho]) (set_take l out i _ (by omega) ho ht ?_))
      · simp only [laws_toByteS.l0]
        rw [if_pos (by omega), if_pos (by omega), if_pos (by omega), wrap_succ i (by omega), Int.toNat_natCast]
      · rw [rd_get l i (by omega), List.getElem?_eq_getElem (by omega)]
  refine Ev.congr (fun k => ?_) (key l.length 0 (List.replicate l.length 0) (by omega) (by simp) (by simp))
  simp only [laws_toByteS.f]
  rw [if_pos (by omega), if_pos (by omega), Int.toNat_natCast]
  rfl
theorem eq_ev (l : List Int) (hl : l.length ≤ 35184372088832) : Ev (fun k => laws_eqByteS.f k l l) true := by
  have key : ∀ (d i : Nat), i + d = l.length → Ev (fun k => laws_eqByteS.l0 k l l i) true := by
    intro d
    induction d with
    | zero =>
      intro i hd
      refine Ev.step (f := fun _ => some true) (fun k => ?_) (Ev.now _)
      simp only [laws_eqByteS.l0]
      rw [if_neg (by omega)]
    | succ d ih =>
      intro i hd
      refine Ev.step (f := fun k => laws_eqByteS.l0 k l l ((i + 1 : Nat) : Int)) (fun k => ?_) (ih (i + 1) (by omega))
      simp only [laws_eqByteS.l0]
      rw [if_pos (by omega), if_pos (by omega), if_pos (by omega), if_pos trivial, wrap_succ i (by omega)]
  refine Ev.congr (fun k => ?_) (key l.length 0 (by omega))
  simp only [laws_eqByteS.f]
  rw [if_pos trivial]
  rfl
theorem mark_ev (l : List Int) (a : Int) (a0 : 0 ≤ a) (a1 : a + l.length ≤ 1099511627776) : Ev (fun k => laws_markByteS.f k l a) (a + l.length, markB a l) := by
  have key : ∀ (r : List Int) (p : List Int) (b : Int), 0 ≤ b → b + r.length ≤ 1099511627776 → p.length + r.length ≤ 1099511627776 → Ev (fun k => laws_markByteS.l0 k (p ++ r) b (p.length : Int)) (b + r.length, p ++ markB b r) := by
    intro r
    induction r with
    | nil =>
      intro p b b0 b1 hp
      refine Ev.step (f := fun _ => some (b, p)) (fun k => ?_) ?_
      · simp only [laws_markByteS.l0]
        rw [if_neg (by simp), List.append_nil]
      · have e : (b + ((([] : List Int).length : Nat) : Int), p ++ markB b []) = (b, p) := by simp [markB]
        rw [e]
        exact Ev.now _
    | cons x r ih =>
      intro p b b0 b1 hp
      simp only [List.length_cons] at b1 hp
      have h := ih (p ++ [b % 256]) (b + 1) (by omega) (by omega) (by simp; omega)
      have e : (b + 1 + (r.length : Int), p ++ [b % 256] ++ markB (b + 1) r) = (b + (((x :: r).length : Nat) : Int), p ++ markB b (x :: r)) := by
        simp only [markB, List.length_cons, List.append_assoc, List.singleton_append]
        congr 1
        omega
      rw [e] at h
      refine Ev.step (fun k => ?_) h
      simp only [laws_markByteS.l0]
      rw [if_pos (by simp; omega), if_pos (by omega), Int.toNat_natCast, wrap_in (x := b + 1) (by omega), wrap_succ _ (by omega)]
      have e2 : (p ++ x :: r).set p.length (b % 256) = p ++ [b % 256] ++ r := by
        rw [List.set_append_right _ _ (Nat.le_refl _), Nat.sub_self]
        simp
      rw [e2]
      simp only [List.length_append, List.length_cons, List.length_nil]
  have h := key l [] a a0 a1 (by simp; omega)
  exact Ev.congr (fun k => by simp only [laws_markByteS.f]; rfl) h
theorem held_ev (l : List Int) (a : Int) (a0 : 0 ≤ a) (a1 : a + l.length ≤ 1099511627776) : Ev (fun k => laws_heldByteS.f k (markB a l) a) (a + l.length) := by
  have key : ∀ (r : List Int) (p : List Int) (b : Int), 0 ≤ b → b + r.length ≤ 1099511627776 → p.length + r.length ≤ 1099511627776 → Ev (fun k => laws_heldByteS.l0 k (p ++ markB b r) b (p.length : Int)) (b + r.length) := by
    intro r
    induction r with
    | nil =>
      intro p b b0 b1 hp
      have e : (b + ((([] : List Int).length : Nat) : Int)) = b := by simp
      rw [e]
      refine Ev.step (f := fun _ => some b) (fun k => ?_) (Ev.now _)
      simp only [laws_heldByteS.l0]
      rw [if_neg (by simp [markB])]
    | cons x r ih =>
      intro p b b0 b1 hp
      simp only [List.length_cons] at b1 hp
      have h := ih (p ++ [b % 256]) (b + 1) (by omega) (by omega) (by simp; omega)
      have e : (b + 1 + (r.length : Int)) = (b + (((x :: r).length : Nat) : Int)) := by simp only [List.length_cons]; omega
      rw [e, List.append_assoc] at h
      refine Ev.step (fun k => ?_) h
      simp only [laws_heldByteS.l0]
      have hg : rd (p ++ markB b (x :: r)) (p.length : Int) = b % 256 := by simp [rd, markB]
      rw [if_pos (by simp [markB]; omega), if_pos (by omega), hg, if_pos rfl, wrap_in (x := b + 1) (by omega), wrap_succ _ (by omega)]
      simp only [List.length_append, List.length_cons, List.length_nil]
      rfl
  have h := key l [] a a0 a1 (by simp; omega)
  exact Ev.congr (fun k => by simp only [laws_heldByteS.f]; rfl) h
theorem to_calls (x : List Int) (v : Value) (w : World) (h : tB.K w x v) (hl : bdB x) :
    Calls Try.prog 20 #[v] w fun e w' => ∃ v', e = .returned v' ∧ tB.M w' w.heap.size (fun _ => True) x v' ∧ Grew w w' := by
  obtain ⟨A, c, rfl, hc, hr⟩ := h
  obtain ⟨k, hk⟩ := (to_ev x (by omega)).rounds
  exact laws_toByteS.calls k A c x x w hr hc hk
theorem eq_calls (x : List Int) (v v' : Value) (w : World) (h : tB.K w x v) (h' : tB.K w x v') (hl : bdB x) :
    Calls Try.prog 23 #[v, v'] w fun e w' => e = .returned (.bool true) ∧ Grew w w' := by
  obtain ⟨A, c, rfl, hc, hr⟩ := h
  obtain ⟨A', c', rfl, hc', hr'⟩ := h'
  obtain ⟨k, hk⟩ := (eq_ev x (by omega)).rounds
  refine (laws_eqByteS.calls k A c x A' c' x true w hr hc hr' hc' hk).mono ?_
  rintro e w' ⟨rfl, h2⟩
  exact ⟨rfl, h2.below⟩
theorem mark_calls (x : List Int) (v : Value) (ok : Nat → Prop) (a : Int) (w0 w : World) (hB : Below w0.heap.size w0 w) (h : tB.M w w0.heap.size ok x v) (a0 : 0 ≤ a) (a1 : a + cntB x ≤ 1099511627776) (_hl : bdB x) :
    Calls Try.prog 24 #[v, .int .i64 a] w fun e w' => e = .returned (.int .i64 (a + cntB x)) ∧ tB.M w' w0.heap.size ok (markB a x) v ∧ Below w0.heap.size w0 w' ∧ Kept w w' ok := by
  obtain ⟨k, hk⟩ := (mark_ev x a a0 a1).rounds
  have h : Kd.R (Kd.int .u8) 5 w w0.heap.size ok v x := h
  refine (laws_markByteS.calls k ok v x a _ _ w0 w hB h hk).mono ?_
  rintro e w' ⟨rfl, h1, h2, h3⟩
  refine ⟨rfl, ?_, h2, h3⟩
  exact Kd.R_mono (Kd.R_tight rfl h1) (fun k hk => h.1 k hk.symm)
theorem held_calls (x : List Int) (v : Value) (a : Int) (w : World) (h : tB.K w (markB a x) v) (a0 : 0 ≤ a) (a1 : a + cntB x ≤ 1099511627776) (_hl : bdB x) :
    Calls Try.prog 50 #[v, .int .i64 a] w fun e w' => e = .returned (.int .i64 (a + cntB x)) ∧ Grew w w' := by
  obtain ⟨A, c, rfl, hc, hr⟩ := h
  obtain ⟨k, hk⟩ := (held_ev x a a0 a1).rounds
  refine (laws_heldByteS.calls k A c (markB a x) a _ w hr hc hk).mono ?_
  rintro e w' ⟨rfl, h2⟩
  exact ⟨rfl, h2.below⟩
end Go.Proofs.Ytmgmdnmfalepkaa.HelpB
