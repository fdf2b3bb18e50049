/- The laws' helpers on lists of whole numbers: copying, comparing with itself. No condition but lengths. -/
import Derived.Test.YtnpmkcbbmeekaaaPKit
import Derived.Test.YtnpmkcbbmeekaaaQx3
import Derived.Test.YtnpmkcbbmeekaaaQx4
namespace Go.Proofs.Ytnpmkcbbmeekaaa.PLaw
open Go.RowKit Go.Proofs.YtnpmkcbbmeekaaaW.PrintWords Go.Proofs.Ytnpmkcbbmeekaaa.PKit Go.Proofs.Ytnpmkcbbmeekaaa.Q

theorem toIntS_ev (l : List Int) (hl : l.length ≤ 35184372088832) : Ev (fun k => laws_toIntS.f k l) l := by
  have key : ∀ (d i : Nat) (out : List Int), i + d = l.length → out.length = l.length → out.take i = l.take i → Ev (fun k => laws_toIntS.l0 k l out i) l := by
    intro d
    induction d with
    | zero =>
      intro i out hd ho ht
      rw [List.take_of_length_le (by omega), List.take_of_length_le (by omega)] at ht
      subst ht
      refine Ev.step (f := fun _ => some out) (fun k => ?_) (Ev.now _)
      simp only [laws_toIntS.l0]
      rw [if_neg (by omega)]
    | succ d ih =>
      intro i out hd ho ht
      refine Ev.step (f := fun k => laws_toIntS.l0 k l (out.set i (rd l i)) ((i + 1 : Nat) : Int)) (fun k => ?_) (ih (i + 1) _ (by omega) (by simp [ho]) (set_take l out i _ (by omega) ho ht ?_))
      · simp only [laws_toIntS.l0]
        rw [if_pos (by omega), if_pos (by omega), if_pos (by omega), wrap_succ i (by omega), Int.toNat_natCast]
      · rw [rd_get l i (by omega), List.getElem?_eq_getElem (by omega)]
  refine Ev.congr (fun k => ?_) (key l.length 0 (List.replicate l.length 0) (by omega) (by simp) (by simp))
  simp only [laws_toIntS.f]
  rw [if_pos (by omega), if_pos (by omega), Int.toNat_natCast]
  rfl
theorem eqIntS_ev (l : List Int) (hl : l.length ≤ 35184372088832) : Ev (fun k => laws_eqIntS.f k l l) true := by
  have key : ∀ (d i : Nat), i + d = l.length → Ev (fun k => laws_eqIntS.l0 k l l i) true := by
    intro d
    induction d with
    | zero =>
      intro i hd
      refine Ev.step (f := fun _ => some true) (fun k => ?_) (Ev.now _)
      simp only [laws_eqIntS.l0]
      rw [if_neg (by omega)]
    | succ d ih =>
      intro i hd
      refine Ev.step (f := fun k => laws_eqIntS.l0 k l l ((i + 1 : Nat) : Int)) (fun k => ?_) (ih (i + 1) (by omega))
      simp only [laws_eqIntS.l0]
      rw [if_pos (by omega), if_pos (by omega), if_pos (by omega), if_pos trivial, wrap_succ i (by omega)]
  refine Ev.congr (fun k => ?_) (key l.length 0 (by omega))
  simp only [laws_eqIntS.f]
  rw [if_pos trivial]
  rfl
end Go.Proofs.Ytnpmkcbbmeekaaa.PLaw
