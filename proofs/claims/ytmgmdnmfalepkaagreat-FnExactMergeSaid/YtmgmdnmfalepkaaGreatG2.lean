/- Parts of the proof (see the row's own text): Kit, Rd, PKit, Ty. -/
import Derived.Test.YtmgmdnmfalepkaaGreatG00
import Derived.Test.YtmgmdnmfalepkaaGreatProg
import Derived.Test.YtmgmdnmfalepkaaGreatG1
import Derived.Below
import Derived.OwnWalk
import Derived.WalkKit
import Derived.KernelRfl
import Derived.Deep.LoopGhost
import Derived.Deep.QuietTactic
import Derived.BigQuiet
import Derived.Deep.DeepCutAuto
import Derived.Deep.CutBlock
import Derived.Deep.RegionHeld3
import Derived.Deep.Draws
import Derived.Lib.Walk
import Derived.Lib.Hide
import Derived.Shelf.Abstract
import Derived.Outline
import Derived.Laws.EntriesVeiled
import Derived.WalkSpells
import Derived.ProofKit
import Derived.Deep.Slices
import Derived.ChangeArms
namespace Go.Proofs.YtmgmdnmfalepkaaGreat.Kit
open Go.RowKit Go.Proofs.YtmgmdnmfalepkaaGreatW.PrintWords
abbrev Grew (w w' : World) : Prop := Below w.heap.size w w'
theorem grew_trans {w w1 w2 : World} (h : Grew w w1) (k : Grew w1 w2) : Grew w w2 := below_then h h.size k
theorem pw_grow {w W : World} (h : Below w.heap.size w W) : Below w.heap.size w W := h
theorem cells_of_R {α : Type} {d : Kd α} {e : Nat} {w : World} {base : Nat} {ok : Nat → Prop} {v : Value} {xs : List α} (h : d.R e w base ok v xs) : Value.cells v = #[v] := by
 obtain ⟨A, c, rfl⟩ := Kd.R_slice h
 rfl
theorem store_of_R {α : Type} {d : Kd α} {e : Nat} {w : World} {base : Nat} {ok : Nat → Prop} {v : Value} {xs : List α} (P : Program) (h : d.R e w base ok v xs) : ∀ (a : Addr) (m : Mode) (W : World), Sem.run P (store a v m) W = stored P W a v m := by
 obtain ⟨A, c, rfl⟩ := Kd.R_slice h
 exact fun a m W => run_store P W a _ m rfl
def PredK {α : Type} (P : Program) (d : Kd α) (g : Nat) (cap : Array Value) (p : α → Bool) (xs : List α) (w : World) : Prop :=
 ∀ (W : World) (x : α) (u : Value), x ∈ xs → Below w.heap.size w W → d.K W x [u] → Calls P g (#[u] ++ cap) W fun e w' => e = .returned (.bool (p x)) ∧ Grew W w'
theorem get_one {α : Type} {d : Kd α} (hs : d.sz = 1) {w : World} {A : Option Addr} {n : Nat} {xs : List α} (h : d.C w A n xs) (z : α) (i : Nat) (hi : i < n) :
  ∃ ad u, A = some ad ∧ w.cell? (ad.add i) = some u ∧ d.K w (xs.getD i z) [u] := by
 obtain ⟨ad, c, e, hl, hK, hc⟩ := Kd.C_get h z (i : Int) zq1 zq1
 have hl' : c.length = 1 := by rw [d.K_len hK, hs]
 obtain ⟨u, rfl⟩ := List.length_eq_one_iff.mp hl'
 refine ⟨ad, u, e, ?_, ?_⟩
 ·have := hc 0 u rfl
  rw [hs] at this
  simpa using this
 ·simpa using hK
theorem getD_mem {α : Type} (xs : List α) (z : α) (i : Nat) (h : i < xs.length) : xs.getD i z ∈ xs := by
 simp [List.getD, List.getElem?_eq_getElem h]
def idxB {α : Type} (p : α → Bool) (xs : List α) : Int := match xs.findIdx? p with | some i => i | none => -1
theorem idxB_hit {α : Type} (p : α → Bool) (xs : List α) (z : α) (k : Nat) (hk : k < xs.length) (hp : p (xs.getD k z) = true) (hn : ∀ j, j < k → p (xs.getD j z) = false) : idxB p xs = k := by
 unfold idxB
 have : xs.findIdx? p = some k := by
  rw [List.findIdx?_eq_some_iff_getElem]
  refine ⟨hk, ?_, fun j hj => ?_⟩
  ·simpa [List.getD, List.getElem?_eq_getElem hk] using hp
  ·have := hn j hj
   simpa [List.getD, List.getElem?_eq_getElem (Nat.lt_trans hj hk)] using this
 rw [this]
theorem idxB_none {α : Type} (p : α → Bool) (xs : List α) (z : α) (hn : ∀ j, j < xs.length → p (xs.getD j z) = false) : idxB p xs = -1 := by
 unfold idxB
 have : xs.findIdx? p = none := by
  rw [List.findIdx?_eq_none_iff]
  intro x hx
  obtain ⟨j, hj, rfl⟩ := List.getElem_of_mem hx
  have := hn j hj
  simpa [List.getD, List.getElem?_eq_getElem hj] using this
 rw [this]
theorem idxB_any {α : Type} (p : α → Bool) (xs : List α) : decide (0 ≤ idxB p xs) = xs.any p := by
 unfold idxB
 cases h : xs.findIdx? p with
 | none =>
  rw [List.findIdx?_eq_none_iff] at h
  have : xs.any p = false := by rw [List.any_eq_false]; intro x hx; simp [h x hx]
  simp [this]
 | some i =>
  rw [List.findIdx?_eq_some_iff_getElem] at h
  obtain ⟨hi, hp, _⟩ := h
  have : xs.any p = true := by rw [List.any_eq_true]; exact ⟨_, List.getElem_mem hi, hp⟩
  simp [this]
end Go.Proofs.YtmgmdnmfalepkaaGreat.Kit

namespace Go.Proofs.YtmgmdnmfalepkaaGreat.Rd
open Go.RowKit Go.Proofs.YtmgmdnmfalepkaaGreatW.PrintWords Go.Proofs.YtmgmdnmfalepkaaGreat.Kit Go.Deep
def Rd {α : Type} (P : Program) (d : Kd α) (t : TypeId) (V : α → Prop) : Prop :=
 ∀ (H : Type) (enc : TypeId × Value → H) (w : World) (fuel : Nat) (cs : List Value) (x : DataW H × List MemPlace), DataW.trod enc P w 0 (fun _ => true) true fuel t cs = some x → ∃ y, d.K w y cs ∧ V y
def RdF {α : Type} (P : Program) (d : Kd α) (fl : List Field) (off : Nat) (V : α → Prop) : Prop :=
 ∀ (H : Type) (enc : TypeId × Value → H) (w : World) (cs : List Value), cs.length = off + d.sz → (∀ f ∈ fl, ∃ fuel y, DataW.trod enc P w 0 (fun _ => true) true fuel f.type ((cs.drop f.offset).take (P.cellsOf f.type)) = some y) → ∃ y, d.K w y (cs.drop off) ∧ V y
section
variable {P : Program}
theorem rd_int {k : IntKind} {t : TypeId} (ht : P.underlying t = some (.int k)) : Rd P (Kd.int k) t (fun y => (Lit.int k y).wf = true) := by
 intro H enc w fuel cs x h
 obtain ⟨n, rfl, _, hw⟩ := DataW.trod_int ht h
 exact ⟨n, rfl, hw⟩
theorem rd_slice {α : Type} {d : Kd α} {t e : TypeId} {V : α → Prop} (ht : P.underlying t = some (.slice e)) (hs : P.cellsOf e = d.sz) (h : Rd P d e V) : Rd P (Kd.slice e d) t (fun ys => ys.length ≤ maxLen ∧ ∀ y ∈ ys, V y) := by
 intro H enc w fuel cs x hx
 rcases open_slice ht hx with ⟨rfl, _⟩ | ⟨a, len, cap, m, n, D, Pl, rfl, _, hl, hm, hmm, _, hel⟩
 ·refine ⟨[], ⟨none, 0, rfl, zq12, ⟨rfl, zq12, fun h0 => absurd h0 (Nat.lt_irrefl 0)⟩⟩, zq12, zq12⟩
 ·simp only [if_true] at hmm
  subst hmm
  have hch : ∀ i, i < len → ∃ y cs', w.cells? 0 (a.add (i * d.sz)) d.sz = some cs' ∧ d.K w y cs' ∧ V y := by
   intro i hi
   obtain ⟨cs', h1, h2⟩ := hel i zq1
   rw [hs] at h1
   obtain ⟨y, hK, hV⟩ := h H enc w n cs' _ h2
   exact ⟨y, cs', h1, hK, hV⟩
  have hall : ∀ k, k ≤ len → ∃ ys : List α, ys.length = k ∧ (∀ j p, ys[j]? = some p → ∃ c, c.length = d.sz ∧ d.K w p c ∧ ∀ i u, c[i]? = some u → w.cell? (a.add (j * d.sz + i)) = some u) ∧ ∀ y ∈ ys, V y := by
   intro k
   induction k with
   | zero => intro _; exact ⟨[], rfl, zq12, zq12⟩
   | succ k ih =>
    intro hk
    obtain ⟨ys, hlen, hr, hV⟩ := ih zq1
    obtain ⟨y, cs', h1, hK, hVy⟩ := hch k zq1
    obtain ⟨_, hl', hcell⟩ := World.cells?_some h1
    refine ⟨ys ++ [y], by simp [hlen], fun j p hj => ?_, fun z hz => ?_⟩
    ·by_cases hjk : j < k
     ·rw [List.getElem?_append_left zq1] at hj
      exact hr j p hj
     ·rw [List.getElem?_append_right zq1] at hj
      have hjz : j - ys.length = 0 := by
       rcases Nat.eq_zero_or_pos (j - ys.length) with h0 | h0
       ·exact h0
       ·rw [List.getElem?_eq_none zq35] at hj
        cases hj
      rw [hjz] at hj
      simp only [List.getElem?_cons_zero, Option.some.injEq] at hj
      subst hj
      have hjk2 : j = k := by omega
      subst hjk2
      refine ⟨cs', hl', hK, fun i u hu => ?_⟩
      have hi : i < d.sz := by rw [← hl']; exact (List.getElem?_eq_some_iff.1 hu).1
      have := hcell i hi
      rw [hu, Addr.add_add] at this
      exact this
    ·rcases List.mem_append.1 hz with hz | hz
     ·exact hV z hz
     ·rw [List.mem_singleton.1 hz]
      exact hVy
  obtain ⟨ys, hlen, hr, hV⟩ := hall len (Nat.le_refl _)
  refine ⟨ys, ⟨some a, m, by rw [hlen], zq1, ⟨rfl, by rw [hlen]; unfold maxLen at hm; omega, fun _ => ⟨a, rfl, hr⟩⟩⟩, zq1, hV⟩
theorem rdF_last {α : Type} {d : Kd α} {f : Field} {off : Nat} {V : α → Prop} (ho : f.offset = off) (hn : P.cellsOf f.type = d.sz) (h : Rd P d f.type V) : RdF P d [f] off V := by
 intro H enc w cs hlen hf
 obtain ⟨fuel, y, hy⟩ := hf f zq12
 rw [ho, hn, List.take_of_length_le zq35] at hy
 exact h H enc w fuel _ _ hy
theorem rdF_cons {α β : Type} {a : Kd α} {b : Kd β} {f : Field} {fl : List Field} {off : Nat} {V : α → Prop} {U : β → Prop} (ho : f.offset = off) (ha : P.cellsOf f.type = a.sz) (h : Rd P a f.type V) (hr : RdF P b fl (off + a.sz) U) :
  RdF P (Kd.pair a b) (f :: fl) off (fun y => V y.1 ∧ U y.2) := by
 intro H enc w cs hlen hf
 obtain ⟨fuel, y, hy⟩ := hf f zq12
 rw [ho, ha] at hy
 obtain ⟨y0, h0, v0⟩ := h H enc w fuel _ _ hy
 obtain ⟨y1, h1, v1⟩ := hr H enc w cs (by rw [hlen]; show off + (a.sz + b.sz) = _; omega) (fun g hg => hf g (by simp [hg]))
 refine ⟨(y0, y1), ⟨_, _, ?_, h0, h1⟩, v0, v1⟩
 rw [← List.drop_drop, List.take_append_drop]
theorem rd_struct {α β : Type} {d : Kd α} {t : TypeId} {fs : Array Field} {V : α → Prop} (ht : P.underlying t = some (.struct fs)) (hn : P.cellsOf t = d.sz) (h : RdF P d fs.toList 0 V) (f : β → α) (g : α → β) (hfg : ∀ x, f (g x) = x) : Rd P (Kd.iso d f) t (fun y => V (f y)) := by
 intro H enc w fuel cs x hx
 obtain ⟨xs, m, _, _, hlen, hxl, hf⟩ := DataW.trod_struct ht hx
 obtain ⟨y, hK, hV⟩ := h H enc w cs (by rw [hlen, hn]; omega) (fun fd hfd => by
  obtain ⟨i, hi, he⟩ := List.getElem_of_mem hfd
  have h1 : fs[i]? = some fd := by
   rw [Array.getElem?_eq_getElem (by simpa using hi)]
   simpa using he
  have h2 := hf i fd h1
  have hix : i < xs.length := by rw [hxl]; simpa using hi
  rw [List.getElem?_eq_getElem hix] at h2
  exact ⟨m, _, h2⟩)
 refine ⟨g y, ?_, by show V (f (g y)); rw [hfg]; exact hV⟩
 show d.K w (f (g y)) cs
 rw [hfg]
 simpa using hK
theorem rd_struct_cells {α : Type} {d : Kd α} {t : TypeId} {fs : Array Field} {V : α → Prop} (ht : P.underlying t = some (.struct fs)) (hn : P.cellsOf t = d.sz) (h : RdF P d fs.toList 0 V) : Rd P d t V := by
 intro H enc w fuel cs x hx
 obtain ⟨y, hK, hV⟩ := rd_struct ht hn h id id (fun _ => rfl) H enc w fuel cs x hx
 exact ⟨y, hK, hV⟩
end
end Go.Proofs.YtmgmdnmfalepkaaGreat.Rd

namespace Go.Proofs.YtmgmdnmfalepkaaGreat.PKit
open Go.RowKit Go.Proofs.YtmgmdnmfalepkaaGreatW.PrintWords
theorem wrap_in {x : Int} (h : -9223372036854775808 ≤ x ∧ x ≤ 9223372036854775807) : wrap64 x = x := by
 unfold wrap64
 omega
theorem wrap_succ (i : Nat) (h : i < 9223372036854775807) : wrap64 ((i : Int) + 1) = ((i + 1 : Nat) : Int) := by
 rw [wrap_in zq1]
 omega
theorem rd_at (l : List Int) (i : Nat) : rd l (i : Int) = l.getD i 0 := rfl
theorem rd_get (l : List Int) (i : Nat) (h : i < l.length) : rd l (i : Int) = l[i] := by
 simp [rd, List.getD, List.getElem?_eq_getElem h]
theorem set_take {α : Type} (l out : List α) (i : Nat) (v : α) (hi : i < l.length) (ho : out.length = l.length) (ht : out.take i = l.take i) (hv : l[i]? = some v) : (out.set i v).take (i + 1) = l.take (i + 1) := by
 apply List.ext_getElem?
 intro j
 rw [List.getElem?_take, List.getElem?_take]
 by_cases hj : j < i + 1
 ·rw [if_pos hj, if_pos hj]
  by_cases e : j = i
  ·subst e
   rw [List.getElem?_set_self zq1, hv]
  ·rw [List.getElem?_set_ne zq1]
   have h1 : (out.take i)[j]? = (l.take i)[j]? := by rw [ht]
   rw [List.getElem?_take, List.getElem?_take, if_pos zq1, if_pos zq1] at h1
   exact h1
 ·rw [if_neg hj, if_neg hj]
abbrev Asc (l : List Int) : Prop := l.Pairwise (· < ·)
theorem asc_ext : ∀ {a b : List Int}, Asc a → Asc b → (∀ x, x ∈ a ↔ x ∈ b) → a = b
 | [], [], _, _, _ => rfl
 | [], y :: b, _, _, h => by have := (h y).2 zq12; simp at this
 | x :: a, [], _, _, h => by have := (h x).1 zq12; simp at this
 | x :: a, y :: b, ha, hb, h => by
  have ha' := List.pairwise_cons.1 ha
  have hb' := List.pairwise_cons.1 hb
  have hxy : x = y := by
   have h1 := (h x).1 zq12
   have h2 := (h y).2 zq12
   rcases List.mem_cons.1 h1 with e | h1
   ·exact e
   ·rcases List.mem_cons.1 h2 with e | h2
    ·exact e.symm
    ·have := hb'.1 x h1
     have := ha'.1 y h2
     omega
  subst hxy
  rw [asc_ext ha'.2 hb'.2 (fun z => by
   have := h z
   constructor
   ·intro hz
    have hz' := this.1 (by simp [hz])
    rcases List.mem_cons.1 hz' with e | hz'
    ·subst e
     have := ha'.1 z hz
     omega
    ·exact hz'
   ·intro hz
    have hz' := this.2 (by simp [hz])
    rcases List.mem_cons.1 hz' with e | hz'
    ·subst e
     have := hb'.1 z hz
     omega
    ·exact hz')]
def ins (x : Int) : List Int → List Int
 | [] => [x]
 | y :: r => if x < y then x :: y :: r else if x = y then y :: r else y :: ins x r
def ord (l : List Int) : List Int := l.foldr ins []
theorem mem_ins (x z : Int) (l : List Int) : z ∈ ins x l ↔ z = x ∨ z ∈ l := by
 induction l with
 | nil => simp [ins]
 | cons y r ih =>
  unfold ins
  split
  ·simp
  ·split
   ·rename_i h
    subst h
    simp
   ·simp only [List.mem_cons, ih]
    constructor
    ·rintro (h | h | h)
     ·exact .inr (.inl h)
     ·exact .inl h
     ·exact .inr (.inr h)
    ·rintro (h | h | h)
     ·exact .inr (.inl h)
     ·exact .inl h
     ·exact .inr (.inr h)
theorem asc_ins (x : Int) {l : List Int} (h : Asc l) : Asc (ins x l) := by
 induction l with
 | nil => simp [ins]
 | cons y r ih =>
  have h' := List.pairwise_cons.1 h
  unfold ins
  split
  ·rename_i hxy
   refine List.pairwise_cons.2 ⟨fun z hz => ?_, h⟩
   rcases List.mem_cons.1 hz with e | hz
   ·omega
   ·have := h'.1 z hz
    omega
  ·split
   ·exact h
   ·refine List.pairwise_cons.2 ⟨fun z hz => ?_, ih h'.2⟩
    rcases (mem_ins x z r).1 hz with e | hz
    ·omega
    ·exact h'.1 z hz
theorem mem_ord (z : Int) (l : List Int) : z ∈ ord l ↔ z ∈ l := by
 induction l with
 | nil => simp [ord]
 | cons y r ih =>
  have e : ord (y :: r) = ins y (ord r) := rfl
  rw [e, mem_ins, ih]
  simp
theorem asc_ord (l : List Int) : Asc (ord l) := by
 induction l with
 | nil => simp [ord]
 | cons y r ih => exact asc_ins y ih
theorem ord_len (l : List Int) : (ord l).length ≤ l.length := by
 have hi : ∀ (x : Int) (r : List Int), (ins x r).length ≤ r.length + 1 := by
  intro x r
  induction r with
  | nil => simp [ins]
  | cons y r ih =>
   unfold ins
   split
   ·simp
   ·split
    ·simp
    ·simp only [List.length_cons]; omega
 induction l with
 | nil => simp [ord]
 | cons y r ih =>
  have e : ord (y :: r) = ins y (ord r) := rfl
  rw [e]
  have := hi y (ord r)
  simp only [List.length_cons]
  omega
theorem ord_unique {l r : List Int} (h : Asc r) (hm : ∀ x, x ∈ r ↔ x ∈ l) : r = ord l :=
 asc_ext h (asc_ord l) (fun x => (hm x).trans (mem_ord x l).symm)
theorem asc_get {l : List Int} (h : Asc l) {i j : Nat} (hij : i < j) (hj : j < l.length) : l[i]'zq1 < l[j] := List.pairwise_iff_getElem.1 h i j zq1 hj hij
end Go.Proofs.YtmgmdnmfalepkaaGreat.PKit

namespace Go.Proofs.YtmgmdnmfalepkaaGreat.Ty
open Go.RowKit Go.Proofs.YtmgmdnmfalepkaaGreatW.PrintWords Go.Proofs.YtmgmdnmfalepkaaGreatW.PrintMore Go.Proofs.YtmgmdnmfalepkaaGreat.Kit Go.Proofs.YtmgmdnmfalepkaaGreat.PKit
set_option linter.unusedVariables false
structure Ty (α : Type) where
 K : World → α → Value → Prop
 M : World → Nat → (Nat → Prop) → α → Value → Prop
 K_below : ∀ {w w1 : World} {x v}, Below w.heap.size w w1 → K w x v → K w1 x v
 K_of_M : ∀ {w base ok x v}, M w base ok x v → K w x v
 M_mono : ∀ {w base ok ok' x v}, (∀ k, ok k → ok' k) → M w base ok x v → M w base ok' x v
 M_bound : ∀ {w : World} {base ok x v}, M w base ok x v → M w base (fun k => ok k ∧ base ≤ k ∧ k < w.heap.size) x v
 M_move : ∀ {w w1 : World} {base ok x v}, (∀ k, ok k → w1.heap[k]? = w.heap[k]?) → M w base ok x v → M w1 base ok x v
 M_lower : ∀ {w base base' ok x v}, base' ≤ base → M w base ok x v → M w base' ok x v
namespace Ty
variable {α β : Type} {T : Ty α} {w w1 w0 W : World} {base : Nat} {ok ok' S : Nat → Prop} {x : α} {v : Value}
theorem M_step (h : T.M w base ok x v) (hm : ∀ k, ok k → k < w.heap.size → w1.heap[k]? = w.heap[k]?) : T.M w1 base ok x v :=
 T.M_mono (fun _ hk => hk.1) (T.M_move (fun k hk => hm k hk.1 hk.2.2) (T.M_bound h))
theorem M_below (h : T.M w base ok x v) (hb : Below w.heap.size w w1) : T.M w1 base ok x v := M_step h (fun k _ hk => hb.block k hk)
theorem M_kept (h : T.M w base ok x v) (hk : Kept w w1 S) (hne : ∀ k, ok k → ¬ S k) : T.M w1 base ok x v := M_step h (fun k ho hlt => hk.2 k hlt (hne k ho))
theorem M_beyond (h : T.M w W.heap.size ok x v) : T.M w W.heap.size (fun k => W.heap.size ≤ k ∧ k < w.heap.size) x v := T.M_mono (fun _ hk => hk.2) (T.M_bound h)
def sc (enc : α → Value) : Ty α where
 K := fun _ x v => v = enc x
 M := fun _ _ _ x v => v = enc x
 K_below := fun _ h => h
 K_of_M := fun h => h
 M_mono := fun _ h => h
 M_bound := fun h => h
 M_move := fun _ h => h
 M_lower := fun _ h => h
def row (d : Kd α) (e : Nat) : Ty (List α) where
 K := fun w xs v => ∃ A c, v = .slice A xs.length c ∧ xs.length ≤ c ∧ d.C w A xs.length xs
 M := fun w base ok xs v => d.R e w base ok v xs
 K_below := by
  rintro w w1 x v hb ⟨A, c, rfl, hl, hr⟩
  exact ⟨A, c, rfl, hl, Kd.C_below hr hb⟩
 K_of_M := fun h => Kd.R_reads h
 M_mono := fun hok h => Kd.R_mono h hok
 M_bound := fun h => Kd.R_mono (Kd.R_bound h) (fun _ hk => ⟨hk.1, hk.2.1, hk.2.2.1⟩)
 M_move := fun hm h => Kd.R_move h hm
 M_lower := fun hb h => Kd.R_lower h hb
def rows (d : Kd α) (e : Nat) : Ty (List α) where
 K := fun w xs v => ∃ A c, v = .slice A xs.length c ∧ xs.length ≤ c ∧ d.C w A xs.length xs
 M := fun w base ok xs v => Kd.S d e w base ok v xs
 K_below := by
  rintro w w1 x v hb ⟨A, c, rfl, hl, hr⟩
  exact ⟨A, c, rfl, hl, Kd.C_below hr hb⟩
 K_of_M := fun h => Kd.S_reads h
 M_mono := fun hok h => Kd.S_mono h hok
 M_bound := fun h => Kd.S_mono (Kd.S_bound h) (fun _ hk => ⟨hk.1, hk.2.1, hk.2.2.1⟩)
 M_move := fun hm h => Kd.S_move h hm
 M_lower := fun hb h => Kd.S_lower h hb
end Ty
structure Tys (α : Type) where
 K : World → α → List Value → Prop
 M : World → Nat → (Nat → Prop) → α → List Value → Prop
 K_below : ∀ {w w1 : World} {x v}, Below w.heap.size w w1 → K w x v → K w1 x v
 K_of_M : ∀ {w base ok x v}, M w base ok x v → K w x v
 M_mono : ∀ {w base ok ok' x v}, (∀ k, ok k → ok' k) → M w base ok x v → M w base ok' x v
 M_bound : ∀ {w : World} {base ok x v}, M w base ok x v → M w base (fun k => ok k ∧ base ≤ k ∧ k < w.heap.size) x v
 M_move : ∀ {w w1 : World} {base ok x v}, (∀ k, ok k → w1.heap[k]? = w.heap[k]?) → M w base ok x v → M w1 base ok x v
 M_lower : ∀ {w base base' ok x v}, base' ≤ base → M w base ok x v → M w base' ok x v
namespace Tys
variable {α β : Type}
def one (a : Ty α) : Tys α where
 K := fun w x l => ∃ v, l = [v] ∧ a.K w x v
 M := fun w base ok x l => ∃ v, l = [v] ∧ a.M w base ok x v
 K_below := by
  rintro w w1 x l hb ⟨v, rfl, h⟩
  exact ⟨v, rfl, a.K_below hb h⟩
 K_of_M := by
  rintro w base ok x l ⟨v, rfl, h⟩
  exact ⟨v, rfl, a.K_of_M h⟩
 M_mono := by
  rintro w base ok ok' x l hok ⟨v, rfl, h⟩
  exact ⟨v, rfl, a.M_mono hok h⟩
 M_bound := by
  rintro w base ok x l ⟨v, rfl, h⟩
  exact ⟨v, rfl, a.M_bound h⟩
 M_move := by
  rintro w w1 base ok x l hm ⟨v, rfl, h⟩
  exact ⟨v, rfl, a.M_move hm h⟩
 M_lower := by
  rintro w base base' ok x l hb ⟨v, rfl, h⟩
  exact ⟨v, rfl, a.M_lower hb h⟩
def cons (a : Ty α) (b : Tys β) : Tys (α × β) where
 K := fun w x l => ∃ v r, l = v :: r ∧ a.K w x.1 v ∧ b.K w x.2 r
 M := fun w base ok x l => ∃ v r ok1 ok2, l = v :: r ∧ (∀ k, ok1 k → ok k) ∧ (∀ k, ok2 k → ok k ∧ ¬ ok1 k) ∧ a.M w base ok1 x.1 v ∧ b.M w base ok2 x.2 r
 K_below := by
  rintro w w1 x l hb ⟨v, r, rfl, h1, h2⟩
  exact ⟨v, r, rfl, a.K_below hb h1, b.K_below hb h2⟩
 K_of_M := by
  rintro w base ok x l ⟨v, r, ok1, ok2, rfl, _, _, h1, h2⟩
  exact ⟨v, r, rfl, a.K_of_M h1, b.K_of_M h2⟩
 M_mono := by
  rintro w base ok ok' x l hok ⟨v, r, ok1, ok2, rfl, e1, e2, h1, h2⟩
  exact ⟨v, r, ok1, ok2, rfl, fun k hk => hok k (e1 k hk), fun k hk => ⟨hok k (e2 k hk).1, (e2 k hk).2⟩, h1, h2⟩
 M_bound := by
  rintro w base ok x l ⟨v, r, ok1, ok2, rfl, e1, e2, h1, h2⟩
  exact ⟨v, r, _, _, rfl, fun k hk => ⟨e1 k hk.1, hk.2⟩, fun k hk => ⟨⟨(e2 k hk.1).1, hk.2⟩, fun hk' => (e2 k hk.1).2 hk'.1⟩, a.M_bound h1, b.M_bound h2⟩
 M_move := by
  rintro w w1 base ok x l hm ⟨v, r, ok1, ok2, rfl, e1, e2, h1, h2⟩
  exact ⟨v, r, ok1, ok2, rfl, e1, e2, a.M_move (fun k hk => hm k (e1 k hk)) h1, b.M_move (fun k hk => hm k (e2 k hk).1) h2⟩
 M_lower := by
  rintro w base base' ok x l hb ⟨v, r, ok1, ok2, rfl, e1, e2, h1, h2⟩
  exact ⟨v, r, ok1, ok2, rfl, e1, e2, a.M_lower hb h1, b.M_lower hb h2⟩
end Tys
def Ty.agg {α : Type} (t : Tys α) : Ty α where
 K := fun w x v => ∃ l, v = .agg l.toArray ∧ t.K w x l
 M := fun w base ok x v => ∃ l, v = .agg l.toArray ∧ t.M w base ok x l
 K_below := by
  rintro w w1 x v hb ⟨l, rfl, h⟩
  exact ⟨l, rfl, t.K_below hb h⟩
 K_of_M := by
  rintro w base ok x v ⟨l, rfl, h⟩
  exact ⟨l, rfl, t.K_of_M h⟩
 M_mono := by
  rintro w base ok ok' x v hok ⟨l, rfl, h⟩
  exact ⟨l, rfl, t.M_mono hok h⟩
 M_bound := by
  rintro w base ok x v ⟨l, rfl, h⟩
  exact ⟨l, rfl, t.M_bound h⟩
 M_move := by
  rintro w w1 base ok x v hm ⟨l, rfl, h⟩
  exact ⟨l, rfl, t.M_move hm h⟩
 M_lower := by
  rintro w base base' ok x v hb ⟨l, rfl, h⟩
  exact ⟨l, rfl, t.M_lower hb h⟩
end Go.Proofs.YtmgmdnmfalepkaaGreat.Ty
