/- Parts of the proof (see the row's own text): Kit, Rd, PKit. -/
import Derived.Test.YtmgmdnmfalepkaaG00
import Derived.Test.YtmgmdnmfalepkaaProg
import Derived.Test.YtmgmdnmfalepkaaG1
import Derived.Below
import Derived.OwnWalk
import Derived.WalkKit
import Derived.KernelRfl
import Derived.Deep.LoopGhost
import Derived.Deep.QuietTactic
import Derived.BigQuiet
import Derived.Deep.DeepCutAuto
import Derived.Deep.CutBlock
import Derived.Deep.RegionHeld3
import Derived.Deep.Draws
import Derived.Lib.Walk
import Derived.Lib.Hide
import Derived.Shelf.Abstract
import Derived.Outline
import Derived.Laws.EntriesVeiled
import Derived.WalkSpells
import Derived.ProofKit
import Derived.Deep.Slices
import Derived.ChangeArms
namespace Go.Proofs.Ytmgmdnmfalepkaa.Kit
open Go.RowKit Go.Proofs.YtmgmdnmfalepkaaW.PrintWords
abbrev Grew (w w' : World) : Prop := Below w.heap.size w w'
theorem grew_trans {w w1 w2 : World} (h : Grew w w1) (k : Grew w1 w2) : Grew w w2 := below_then h h.size k
theorem pw_grow {w W : World} (h : Below w.heap.size w W) : Below w.heap.size w W := h
theorem get_one {α : Type} {d : Kd α} (hs : d.sz = 1) {w : World} {A : Option Addr} {n : Nat} {xs : List α} (h : d.C w A n xs) (z : α) (i : Nat) (hi : i < n) :
  ∃ ad u, A = some ad ∧ w.cell? (ad.add i) = some u ∧ d.K w (xs.getD i z) [u] := by
 obtain ⟨ad, c, e, hl, hK, hc⟩ := Kd.C_get h z (i : Int) zq3 zq3
 have hl' : c.length = 1 := by rw [d.K_len hK, hs]
 obtain ⟨u, rfl⟩ := List.length_eq_one_iff.mp hl'
 refine ⟨ad, u, e, ?_, ?_⟩
 ·have := hc 0 u rfl
  rw [hs] at this
  simpa using this
 ·simpa using hK
theorem getD_mem {α : Type} (xs : List α) (z : α) (i : Nat) (h : i < xs.length) : xs.getD i z ∈ xs := by
 simp [List.getD, List.getElem?_eq_getElem h]
end Go.Proofs.Ytmgmdnmfalepkaa.Kit

namespace Go.Proofs.Ytmgmdnmfalepkaa.Rd
open Go.RowKit Go.Proofs.YtmgmdnmfalepkaaW.PrintWords Go.Proofs.Ytmgmdnmfalepkaa.Kit Go.Deep
def Rd {α : Type} (P : Program) (d : Kd α) (t : TypeId) (V : α → Prop) : Prop :=
 ∀ (H : Type) (enc : TypeId × Value → H) (w : World) (fuel : Nat) (cs : List Value) (x : DataW H × List MemPlace), DataW.trod enc P w 0 (fun _ => true) true fuel t cs = some x → ∃ y, d.K w y cs ∧ V y
section
variable {P : Program}
theorem rd_int {k : IntKind} {t : TypeId} (ht : P.underlying t = some (.int k)) : Rd P (Kd.int k) t (fun y => (Lit.int k y).wf = true) := by
 intro H enc w fuel cs x h
 obtain ⟨n, rfl, _, hw⟩ := DataW.trod_int ht h
 exact ⟨n, rfl, hw⟩
theorem rd_slice {α : Type} {d : Kd α} {t e : TypeId} {V : α → Prop} (ht : P.underlying t = some (.slice e)) (hs : P.cellsOf e = d.sz) (h : Rd P d e V) : Rd P (Kd.slice e d) t (fun ys => ys.length ≤ maxLen ∧ ∀ y ∈ ys, V y) := by
 intro H enc w fuel cs x hx
 rcases open_slice ht hx with ⟨rfl, _⟩ | ⟨a, len, cap, m, n, D, Pl, rfl, _, hl, hm, hmm, _, hel⟩
 ·refine ⟨[], ⟨none, 0, rfl, zq14, ⟨rfl, zq14, fun h0 => absurd h0 (Nat.lt_irrefl 0)⟩⟩, zq14, zq14⟩
 ·simp only [if_true] at hmm
  subst hmm
  have hch : ∀ i, i < len → ∃ y cs', w.cells? 0 (a.add (i * d.sz)) d.sz = some cs' ∧ d.K w y cs' ∧ V y := by
   intro i hi
   obtain ⟨cs', h1, h2⟩ := hel i zq3
   rw [hs] at h1
   obtain ⟨y, hK, hV⟩ := h H enc w n cs' _ h2
   exact ⟨y, cs', h1, hK, hV⟩
  have hall : ∀ k, k ≤ len → ∃ ys : List α, ys.length = k ∧ (∀ j p, ys[j]? = some p → ∃ c, c.length = d.sz ∧ d.K w p c ∧ ∀ i u, c[i]? = some u → w.cell? (a.add (j * d.sz + i)) = some u) ∧ ∀ y ∈ ys, V y := by
   intro k
   induction k with
   | zero => intro _; exact ⟨[], rfl, zq14, zq14⟩
   | succ k ih =>
    intro hk
    obtain ⟨ys, hlen, hr, hV⟩ := ih zq3
    obtain ⟨y, cs', h1, hK, hVy⟩ := hch k zq3
    obtain ⟨_, hl', hcell⟩ := World.cells?_some h1
    refine ⟨ys ++ [y], by simp [hlen], fun j p hj => ?_, fun z hz => ?_⟩
    ·by_cases hjk : j < k
     ·rw [List.getElem?_append_left zq3] at hj
      exact hr j p hj
     ·rw [List.getElem?_append_right zq3] at hj
      have hjz : j - ys.length = 0 := by
       rcases Nat.eq_zero_or_pos (j - ys.length) with h0 | h0
       ·exact h0
       ·rw [List.getElem?_eq_none zq42] at hj
        cases hj
      rw [hjz] at hj
      simp only [List.getElem?_cons_zero, Option.some.injEq] at hj
      subst hj
      have hjk2 : j = k := by omega
      subst hjk2
      refine ⟨cs', hl', hK, fun i u hu => ?_⟩
      have hi : i < d.sz := by rw [← hl']; exact (List.getElem?_eq_some_iff.1 hu).1
      have := hcell i hi
      rw [hu, Addr.add_add] at this
      exact this
    ·rcases List.mem_append.1 hz with hz | hz
     ·exact hV z hz
     ·rw [List.mem_singleton.1 hz]
      exact hVy
  obtain ⟨ys, hlen, hr, hV⟩ := hall len (Nat.le_refl _)
  refine ⟨ys, ⟨some a, m, by rw [hlen], zq3, ⟨rfl, by rw [hlen]; unfold maxLen at hm; omega, fun _ => ⟨a, rfl, hr⟩⟩⟩, zq3, hV⟩
end
end Go.Proofs.Ytmgmdnmfalepkaa.Rd

namespace Go.Proofs.Ytmgmdnmfalepkaa.PKit
open Go.RowKit Go.Proofs.YtmgmdnmfalepkaaW.PrintWords
theorem wrap_in {x : Int} (h : -9223372036854775808 ≤ x ∧ x ≤ 9223372036854775807) : wrap64 x = x := by
 unfold wrap64
 omega
theorem wrap_succ (i : Nat) (h : i < 9223372036854775807) : wrap64 ((i : Int) + 1) = ((i + 1 : Nat) : Int) := by
 rw [wrap_in zq3]
 omega
theorem rd_at (l : List Int) (i : Nat) : rd l (i : Int) = l.getD i 0 := rfl
theorem rd_get (l : List Int) (i : Nat) (h : i < l.length) : rd l (i : Int) = l[i] := by
 simp [rd, List.getD, List.getElem?_eq_getElem h]
abbrev Asc (l : List Int) : Prop := l.Pairwise (· < ·)
theorem asc_ext : ∀ {a b : List Int}, Asc a → Asc b → (∀ x, x ∈ a ↔ x ∈ b) → a = b
 | [], [], _, _, _ => rfl
 | [], y :: b, _, _, h => by have := (h y).2 zq14; simp at this
 | x :: a, [], _, _, h => by have := (h x).1 zq14; simp at this
 | x :: a, y :: b, ha, hb, h => by
  have ha' := List.pairwise_cons.1 ha
  have hb' := List.pairwise_cons.1 hb
  have hxy : x = y := by
   have h1 := (h x).1 zq14
   have h2 := (h y).2 zq14
   rcases List.mem_cons.1 h1 with e | h1
   ·exact e
   ·rcases List.mem_cons.1 h2 with e | h2
    ·exact e.symm
    ·have := hb'.1 x h1
     have := ha'.1 y h2
     omega
  subst hxy
  rw [asc_ext ha'.2 hb'.2 (fun z => by
   have := h z
   constructor
   ·intro hz
    have hz' := this.1 (by simp [hz])
    rcases List.mem_cons.1 hz' with e | hz'
    ·subst e
     have := ha'.1 z hz
     omega
    ·exact hz'
   ·intro hz
    have hz' := this.2 (by simp [hz])
    rcases List.mem_cons.1 hz' with e | hz'
    ·subst e
     have := hb'.1 z hz
     omega
    ·exact hz')]
def ins (x : Int) : List Int → List Int
 | [] => [x]
 | y :: r => if x < y then x :: y :: r else if x = y then y :: r else y :: ins x r
def ord (l : List Int) : List Int := l.foldr ins []
theorem mem_ins (x z : Int) (l : List Int) : z ∈ ins x l ↔ z = x ∨ z ∈ l := by
 induction l with
 | nil => simp [ins]
 | cons y r ih =>
  unfold ins
  split
  ·simp
  ·split
   ·rename_i h
    subst h
    simp
   ·simp only [List.mem_cons, ih]
    constructor
    ·rintro (h | h | h)
     ·exact .inr (.inl h)
     ·exact .inl h
     ·exact .inr (.inr h)
    ·rintro (h | h | h)
     ·exact .inr (.inl h)
     ·exact .inl h
     ·exact .inr (.inr h)
theorem asc_ins (x : Int) {l : List Int} (h : Asc l) : Asc (ins x l) := by
 induction l with
 | nil => simp [ins]
 | cons y r ih =>
  have h' := List.pairwise_cons.1 h
  unfold ins
  split
  ·rename_i hxy
   refine List.pairwise_cons.2 ⟨fun z hz => ?_, h⟩
   rcases List.mem_cons.1 hz with e | hz
   ·omega
   ·have := h'.1 z hz
    omega
  ·split
   ·exact h
   ·refine List.pairwise_cons.2 ⟨fun z hz => ?_, ih h'.2⟩
    rcases (mem_ins x z r).1 hz with e | hz
    ·omega
    ·exact h'.1 z hz
theorem mem_ord (z : Int) (l : List Int) : z ∈ ord l ↔ z ∈ l := by
 induction l with
 | nil => simp [ord]
 | cons y r ih =>
  have e : ord (y :: r) = ins y (ord r) := rfl
  rw [e, mem_ins, ih]
  simp
theorem asc_ord (l : List Int) : Asc (ord l) := by
 induction l with
 | nil => simp [ord]
 | cons y r ih => exact asc_ins y ih
theorem ord_len (l : List Int) : (ord l).length ≤ l.length := by
 have hi : ∀ (x : Int) (r : List Int), (ins x r).length ≤ r.length + 1 := by
  intro x r
  induction r with
  | nil => simp [ins]
  | cons y r ih =>
   unfold ins
   split
   ·simp
   ·split
    ·simp
    ·simp only [List.length_cons]; omega
 induction l with
 | nil => simp [ord]
 | cons y r ih =>
  have e : ord (y :: r) = ins y (ord r) := rfl
  rw [e]
  have := hi y (ord r)
  simp only [List.length_cons]
  omega
theorem ord_unique {l r : List Int} (h : Asc r) (hm : ∀ x, x ∈ r ↔ x ∈ l) : r = ord l :=
 asc_ext h (asc_ord l) (fun x => (hm x).trans (mem_ord x l).symm)
theorem asc_get {l : List Int} (h : Asc l) {i j : Nat} (hij : i < j) (hj : j < l.length) : l[i]'zq3 < l[j] := List.pairwise_iff_getElem.1 h i j zq3 hj hij
end Go.Proofs.Ytmgmdnmfalepkaa.PKit
