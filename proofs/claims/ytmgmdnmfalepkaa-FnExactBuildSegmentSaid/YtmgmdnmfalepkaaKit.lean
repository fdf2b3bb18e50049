import Derived.Test.YtmgmdnmfalepkaaProg
import Derived.Test.YtmgmdnmfalepkaaWMore
import Derived.Test.YtmgmdnmfalepkaaWNEv
import Derived.Test.YtmgmdnmfalepkaaWInvWords
import Derived.Below
import Derived.OwnWalk
import Derived.WalkKit
import Derived.KernelRfl
import Derived.Deep.LoopGhost
import Derived.Deep.QuietTactic
import Derived.BigQuiet
import Derived.Deep.DeepCutAuto
import Derived.Deep.CutBlock
import Derived.Deep.RegionHeld3
import Derived.Deep.Draws
import Derived.Lib.Walk
import Derived.Lib.Hide
import Derived.Shelf.Abstract
import Derived.Outline
import Derived.Laws.EntriesVeiled
import Derived.WalkSpells
namespace Go.Proofs.Ytmgmdnmfalepkaa.Kit
open Go.RowKit Go.Proofs.YtmgmdnmfalepkaaW.PrintWords
abbrev Grew (w w' : World) : Prop := Below w.heap.size w w'
theorem grew_trans {w w1 w2 : World} (h : Grew w w1) (k : Grew w1 w2) : Grew w w2 := below_then h h.size k
theorem pw_grow {w W : World} (h : Below w.heap.size w W) : Below w.heap.size w W := h
theorem cells_of_R {α : Type} {d : Kd α} {e : Nat} {w : World} {base : Nat} {ok : Nat → Prop} {v : Value} {xs : List α} (h : d.R e w base ok v xs) : Value.cells v = #[v] := by
  obtain ⟨A, c, rfl⟩ := Kd.R_slice h
  rfl
theorem store_of_R {α : Type} {d : Kd α} {e : Nat} {w : World} {base : Nat} {ok : Nat → Prop} {v : Value} {xs : List α} (P : Program) (h : d.R e w base ok v xs) : ∀ (a : Addr) (m : Mode) (W : World), Sem.run P (store a v m) W = stored P W a v m := by
  obtain ⟨A, c, rfl⟩ := Kd.R_slice h
  exact fun a m W => run_store P W a _ m rfl
theorem get_one {α : Type} {d : Kd α} (hs : d.sz = 1) {w : World} {A : Option Addr} {n : Nat} {xs : List α} (h : d.C w A n xs) (z : α) (i : Nat) (hi : i < n) :
    ∃ ad u, A = some ad ∧ w.cell? (ad.add i) = some u ∧ d.K w (xs.getD i z) [u] := by
  obtain ⟨ad, c, e, hl, hK, hc⟩ := Kd.C_get h z (i : Int) (by omega) (by omega)
  have hl' : c.length = 1 := by rw [d.K_len hK, hs]
  obtain ⟨u, rfl⟩ := List.length_eq_one_iff.mp hl'
  refine ⟨ad, u, e, ?_, ?_⟩
  · have := hc 0 u rfl
    rw [hs] at this
    simpa using this
  · simpa using hK
end Go.Proofs.Ytmgmdnmfalepkaa.Kit
