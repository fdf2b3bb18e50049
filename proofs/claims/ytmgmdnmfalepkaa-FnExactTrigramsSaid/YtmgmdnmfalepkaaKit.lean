/- Small lemmas of this seat, for the walks of the program's own functions: no Go function is spoken of here. -/
import Derived.Test.YtmgmdnmfalepkaaProg
import Derived.Test.YtmgmdnmfalepkaaWMore
import Derived.Test.YtmgmdnmfalepkaaWNEv
import Derived.Test.YtmgmdnmfalepkaaWInvWords
import Derived.Below
import Derived.OwnWalk
import Derived.WalkKit
import Derived.KernelRfl
import Derived.Deep.LoopGhost
import Derived.Deep.QuietTactic
import Derived.BigQuiet
import Derived.Deep.DeepCutAuto
import Derived.Deep.CutBlock
import Derived.Deep.RegionHeld3
import Derived.Deep.Draws
import Derived.Lib.Walk
import Derived.Lib.Hide
import Derived.Shelf.Abstract
import Derived.Outline
import Derived.Laws.EntriesVeiled
import Derived.WalkSpells
namespace Go.Proofs.Ytmgmdnmfalepkaa.Kit
open Go.RowKit Go.Proofs.YtmgmdnmfalepkaaW.PrintWords

/-- The world may have drawn, and blocks may have been laid: what was there is there. -/
abbrev Grew (w w' : World) : Prop := Below w.heap.size w w'

theorem grew_trans {w w1 w2 : World} (h : Grew w w1) (k : Grew w1 w2) : Grew w w2 := below_then h h.size k

theorem pw_grow {w W : World} (h : Below w.heap.size w W) : Below w.heap.size w W := h

theorem cell_grown {w w1 : World} {row b o : Nat} {v : Value} (hg : w.grownBy w1 (some row)) (hne : b ≠ row) (h : w.cell? ⟨b, o, none⟩ = some v) : w1.cell? ⟨b, o, none⟩ = some v :=
  (World.cell?_of_block (w := w) (w' := w1) (a := ⟨b, o, none⟩) (hg.block b (World.block_lt_of_cell? w _ h) (fun e => hne (by injection e)))).trans h

theorem cells_of_R {α : Type} {d : Kd α} {e : Nat} {w : World} {base : Nat} {ok : Nat → Prop} {v : Value} {xs : List α} (h : d.R e w base ok v xs) : Value.cells v = #[v] := by
  obtain ⟨A, c, rfl⟩ := Kd.R_slice h
  rfl

theorem store_of_R {α : Type} {d : Kd α} {e : Nat} {w : World} {base : Nat} {ok : Nat → Prop} {v : Value} {xs : List α} (P : Program) (h : d.R e w base ok v xs) : ∀ (a : Addr) (m : Mode) (W : World), Sem.run P (store a v m) W = stored P W a v m := by
  obtain ⟨A, c, rfl⟩ := Kd.R_slice h
  exact fun a m W => run_store P W a _ m rfl

/-- What a predicate (function g with the captured variables cap) is asked for: at every element of kind d it hands back p of it. -/
def PredK {α : Type} (P : Program) (d : Kd α) (g : Nat) (cap : Array Value) (p : α → Bool) (xs : List α) (w : World) : Prop :=
  ∀ (W : World) (x : α) (u : Value), x ∈ xs → Below w.heap.size w W → d.K W x [u] → Calls P g (#[u] ++ cap) W fun e w' => e = .returned (.bool (p x)) ∧ Grew W w'

theorem get_one {α : Type} {d : Kd α} (hs : d.sz = 1) {w : World} {A : Option Addr} {n : Nat} {xs : List α} (h : d.C w A n xs) (z : α) (i : Nat) (hi : i < n) :
    ∃ ad u, A = some ad ∧ w.cell? (ad.add i) = some u ∧ d.K w (xs.getD i z) [u] := by
  obtain ⟨ad, c, e, hl, hK, hc⟩ := Kd.C_get h z (i : Int) (by omega) (by omega)
  have hl' : c.length = 1 := by rw [d.K_len hK, hs]
  obtain ⟨u, rfl⟩ := List.length_eq_one_iff.mp hl'
  refine ⟨ad, u, e, ?_, ?_⟩
  · have := hc 0 u rfl
    rw [hs] at this
    simpa using this
  · simpa using hK

theorem getD_mem {α : Type} (xs : List α) (z : α) (i : Nat) (h : i < xs.length) : xs.getD i z ∈ xs := by
  simp [List.getD, List.getElem?_eq_getElem h]

/-- The first place at which p holds, or -1. -/
def idxB {α : Type} (p : α → Bool) (xs : List α) : Int := match xs.findIdx? p with | some i => i | none => -1
theorem idxB_hit {α : Type} (p : α → Bool) (xs : List α) (z : α) (k : Nat) (hk : k < xs.length) (hp : p (xs.getD k z) = true) (hn : ∀ j, j < k → p (xs.getD j z) = false) : idxB p xs = k := by
  unfold idxB
  have : xs.findIdx? p = some k := by
    rw [List.findIdx?_eq_some_iff_getElem]
    refine ⟨hk, ?_, fun j hj => ?_⟩
    · simpa [List.getD, List.getElem?_eq_getElem hk] using hp
    · have := hn j hj
      simpa [List.getD, List.getElem?_eq_getElem (Nat.lt_trans hj hk)] using this
  rw [this]
theorem idxB_none {α : Type} (p : α → Bool) (xs : List α) (z : α) (hn : ∀ j, j < xs.length → p (xs.getD j z) = false) : idxB p xs = -1 := by
  unfold idxB
  have : xs.findIdx? p = none := by
    rw [List.findIdx?_eq_none_iff]
    intro x hx
    obtain ⟨j, hj, rfl⟩ := List.getElem_of_mem hx
    have := hn j hj
    simpa [List.getD, List.getElem?_eq_getElem hj] using this
  rw [this]
theorem idxB_any {α : Type} (p : α → Bool) (xs : List α) : decide (0 ≤ idxB p xs) = xs.any p := by
  unfold idxB
  cases h : xs.findIdx? p with
  | none =>
    rw [List.findIdx?_eq_none_iff] at h
    have : xs.any p = false := by rw [List.any_eq_false]; intro x hx; simp [h x hx]
    simp [this]
  | some i =>
    rw [List.findIdx?_eq_some_iff_getElem] at h
    obtain ⟨hi, hp, _⟩ := h
    have : xs.any p = true := by rw [List.any_eq_true]; exact ⟨_, List.getElem_mem hi, hp⟩
    simp [this]
end Go.Proofs.Ytmgmdnmfalepkaa.Kit
