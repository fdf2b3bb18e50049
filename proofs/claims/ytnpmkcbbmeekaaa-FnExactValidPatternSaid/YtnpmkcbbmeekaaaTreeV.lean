/- impl.ValidPattern: it answers whether the list of elements is that of a tree. -/
import Derived.Test.YtnpmkcbbmeekaaaTreeW
namespace Go.Proofs.Ytnpmkcbbmeekaaa.Tree
open Go.RowKit Go.Proofs.YtnpmkcbbmeekaaaW.PrintWords Go.Proofs.YtnpmkcbbmeekaaaW.PrintMore Go.Proofs.Ytnpmkcbbmeekaaa.Kit Go.Proofs.Ytnpmkcbbmeekaaa.Node
set_option linter.unusedVariables false

theorem C_iso {α β : Type} {d : Kd α} {f : β → α} {w : World} {A : Option Addr} {n : Nat} {xs : List β} (h : (Kd.iso d f).C w A n xs) : d.C w A n (xs.map f) := by
  obtain ⟨h1, h2, h3⟩ := h
  refine ⟨by rw [List.length_map]; exact h1, h2, fun hn => ?_⟩
  obtain ⟨ad, e, hc⟩ := h3 hn
  refine ⟨ad, e, fun j p hp => ?_⟩
  rw [List.getElem?_map] at hp
  cases hx : xs[j]? with
  | none => rw [hx] at hp; cases hp
  | some x =>
    rw [hx] at hp
    cases hp
    exact hc j x hx
def validP (t : List Op4) : Bool := (tree t).isSome
theorem valid_calls (b0 b1 : Bool) (A : Option Addr) (c : Nat) (t : List Op4) (w : World) (hr : Kd.C kOp w A t.length t) (hc : t.length ≤ c) :
    Calls Try.prog 34 #[.agg #[.bool b0, .bool b1, .slice A t.length c]] w fun e w' => e = .returned (.bool (validP t)) ∧ Grew w w' := by
  have HR := Aside0.mk hr
  have hT := fun W (h : Below w.heap.size w W) => treeOf_calls A c t W (Kd.C_below HR.out h) hc
  clear hr
  have HV := Aside0.mk (show validP t = (tree t).isSome from rfl)
  generalize tree t = o at hT HV
  go_enter Try.func34, Try.ntmps34
  cases o with
  | none =>
    simp only [ans] at hT
    go_wp2_with (go_at_call 56; refine (hT _ (by repeat (first | exact Below.refl _ _ | apply below_alloc | apply below_drew))).mono ?_; rintro e w' ⟨rfl, hb'⟩)
    go_ret
    exact ⟨by rw [HV.out]; rfl, grew_trans (by repeat (first | exact Below.refl _ _ | apply below_alloc | apply below_drew)) hb'⟩
  | some x =>
    simp only [ans] at hT
    go_wp2_with (go_at_call 56; refine (hT _ (by repeat (first | exact Below.refl _ _ | apply below_alloc | apply below_drew))).mono ?_; rintro e w' ⟨rfl, hb'⟩)
    go_ret
    exact ⟨by rw [HV.out]; rfl, grew_trans (by repeat (first | exact Below.refl _ _ | apply below_alloc | apply below_drew)) hb'⟩
theorem printed (b0 b1 : Bool) (A : Option Addr) (c : Nat) (t : List Op4) (w : World) (n : Nat) (hn : t.length = n) (hr : Kd.C kOp w A n t) (hc : n ≤ c) :
    Calls Try.prog 34 #[.agg #[.bool b0, .bool b1, .slice A n c]] w fun e w' => e = .returned (.bool (validP t)) ∧ Below w.heap.size w w' := by
  subst hn
  exact valid_calls b0 b1 A c t w hr hc
end Go.Proofs.Ytnpmkcbbmeekaaa.Tree
