/- Maps of the call's own, from whole numbers to whole numbers, told by a plain function: making, asking, storing. No Go function is spoken of here. -/
import Derived.Test.YtnpmkcbbmeekaaaKit
import Derived.Maps.Own
import Derived.Maps.OwnOps
import Derived.Maps.OwnSet
import Derived.Maps.Views
namespace Go.Proofs.Ytnpmkcbbmeekaaa.MapI
open Go.RowKit Go.Proofs.YtnpmkcbbmeekaaaW.PrintWords Go.Proofs.Ytnpmkcbbmeekaaa.Kit Go.Maps

abbrev W64 (x : Int) : Prop := (Lit.int .i64 x).wf = true
def At (P : Program) (k e : TypeId) (w : World) (b n : Nat) (f : Int → Int) : Prop :=
  ∃ D : DataW Unit, w.ownsMap P k (plainElem P e) b n D ∧ ∀ x, W64 x → D.atKey (.int .i64 x) (.lit (.int .i64 0)) = .lit (.int .i64 (f x))
section
variable {P : Program} {k e t : TypeId} {w w1 : World} {b n : Nat} {f : Int → Int}
theorem made (w : World) (P : Program) (k e : TypeId) : At P k e (w.alloc (.map #[] 0)) w.heap.size 0 (fun _ => 0) :=
  ⟨.map [], World.ownsMap_made _ _ _ _, fun _ _ => rfl⟩
theorem At.lt (h : At P k e w b n f) : b < w.heap.size := by
  obtain ⟨D, h, _⟩ := h
  exact h.lt
theorem At.kept {row : Option Nat} (h : At P k e w b n f) (hg : w.grownBy w1 row) (hne : some b ≠ row) : At P k e w1 b n f := by
  obtain ⟨D, h, hf⟩ := h
  exact ⟨D, h.kept hg hne, hf⟩
theorem At.grew (h : At P k e w b n f) (hb : Below w.heap.size w w1) : At P k e w1 b n f := h.kept (grown_of_below hb none) (by simp)
theorem At.drewN (h : At P k e w b n f) (m : Nat) : At P k e (w.drewN m) b n f := h.grew (pw_below_drewN (Below.refl _ _) m)
theorem At.mono (h : At P k e w b n f) {n' : Nat} (hn : n ≤ n') : At P k e w b n' f := by
  obtain ⟨D, h, hf⟩ := h
  exact ⟨D, h.mono hn, hf⟩
theorem At.run (h : At P k e w b n f) (hk : P.underlying k = some (.int .i64)) (ht : P.underlying t = some (.map k e)) (he : P.underlying e = some (.int .i64)) (hz : (zeroValue e).run P w = .ok (.int .i64 0) w) {x : Int} (hx : W64 x) :
    (Instr.lookup t (.map (some b)) (.int .i64 x) false).run P w = .ok (.int .i64 (f x)) w := by
  obtain ⟨D, h, hf⟩ := h
  obtain ⟨c, hrun, hat, _⟩ := h.lookup_int (int_keyed hk) ht he hz (keyOf_int_mk hk hx)
  rw [hf x hx] at hat
  injection hat with hat
  injection hat with _ hat
  rw [hrun, hat]
theorem wp_lookup {ops : Array Oper} {rest : List Oper} {o : Oper} {a : Act} {Q : Exit → Act → World → Prop} (hg : o.guard = none) (m x : Operand) (t : TypeId) (hop : o.op = Op.lookup t m x false)
    (hk : P.underlying k = some (.int .i64)) (ht : P.underlying t = some (.map k e)) (he : P.underlying e = some (.int .i64)) (hz : (zeroValue e).run P w = .ok (.int .i64 0) w)
    (h : At P k e w b n f) (hm : a.eval m = .map (some b)) (y : Int) (hx : a.eval x = .int .i64 y) (hy : W64 y) (hK : wpList P ops Q rest (a.put o.dst (.int .i64 (f y))) w) : wpList P ops Q (o :: rest) a w := by
  obtain ⟨D, h, hf⟩ := h
  refine wpList_lookup_own_int w hg m x t hop k e .i64 (int_keyed hk) ht he hz b n D hm h _ _ hx (keyOf_int_mk hk hy) ?_
  intro c hc _
  rw [hf y hy] at hc
  injection hc with hc
  injection hc with _ hc
  rw [← hc]
  exact hK
theorem wp_store {ops : Array Oper} {rest : List Oper} {o : Oper} {a : Act} {Q : Exit → Act → World → Prop} (hg : o.guard = none) (m x v : Operand) (t : TypeId) (hop : o.op = Op.mapUpdate t m x v)
    (hk : P.underlying k = some (.int .i64)) (ht : P.underlying t = some (.map k e)) (he : P.underlying e = some (.int .i64))
    (h : At P k e w b n f) (hn : n < maxLen) (hm : a.eval m = .map (some b)) (y z : Int) (hx : a.eval x = .int .i64 y) (hv : a.eval v = .int .i64 z) (hy : W64 y) (hz : W64 z)
    (hK : ∀ w', At P k e w' b (n + 1) (fun u => if u = y then z else f u) → w.grownBy w' (some b) → wpList P ops Q rest (a.put o.dst undef) w') : wpList P ops Q (o :: rest) a w := by
  obtain ⟨D, h, hf⟩ := h
  refine wpList_mapUpdate_own w hg m x v t hop k e (int_keyed hk) ht _ b n D hm h hn _ _ _ hx hv (keyOf_int_mk hk hy) (.lit (.int .i64 z)) [] (plainElem_int he hz) ?_
  intro w' h' hg'
  refine hK w' ⟨_, h', fun u hu => ?_⟩ hg'
  by_cases e : u = y
  · subst e
    rw [atKey_put_same h.isMap ((int_keyed hk).key (keyOf_int_mk hk hy))]
    simp
  · rw [atKey_put_other (by intro e'; injection e' with _ e'; exact e e'), hf u hu]
    simp [e]
end
end Go.Proofs.Ytnpmkcbbmeekaaa.MapI
