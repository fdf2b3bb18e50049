import Derived.Test.YtmgmdnmfalepkaaWNEv
import Derived.Test.YtmgmdnmfalepkaaWMore
namespace Go.Proofs.Ytmgmdnmfalepkaa.PKit
open Go.RowKit Go.Proofs.YtmgmdnmfalepkaaW.PrintWords
theorem wrap_in {x : Int} (h : -9223372036854775808 ≤ x ∧ x ≤ 9223372036854775807) : wrap64 x = x := by
  unfold wrap64
  omega
theorem wrap_succ (i : Nat) (h : i < 9223372036854775807) : wrap64 ((i : Int) + 1) = ((i + 1 : Nat) : Int) := by
  rw [wrap_in (by omega)]
  omega
theorem rd_at (l : List Int) (i : Nat) : rd l (i : Int) = l.getD i 0 := rfl
theorem rd_get (l : List Int) (i : Nat) (h : i < l.length) : rd l (i : Int) = l[i] := by
  simp [rd, List.getD, List.getElem?_eq_getElem h]
theorem set_take {α : Type} (l out : List α) (i : Nat) (v : α) (hi : i < l.length) (ho : out.length = l.length) (ht : out.take i = l.take i) (hv : l[i]? = some v) : (out.set i v).take (i + 1) = l.take (i + 1) := by
  apply List.ext_getElem?
  intro j
  rw [List.getElem?_take, List.getElem?_take]
  by_cases hj : j < i + 1
  · rw [if_pos hj, if_pos hj]
    by_cases e : j = i
    · subst e
      rw [List.getElem?_set_self (by omega), hv]
    · rw [List.getElem?_set_ne (by omega)]
      have h1 : (out.take i)[j]? = (l.take i)[j]? := by rw [ht]
      rw [List.getElem?_take, List.getElem?_take, if_pos (by omega), if_pos (by omega)] at h1
      exact h1
  · rw [if_neg hj, if_neg hj]
abbrev Asc (l : List Int) : Prop := l.Pairwise (· < ·)
theorem asc_ext : ∀ {a b : List Int}, Asc a → Asc b → (∀ x, x ∈ a ↔ x ∈ b) → a = b
  | [], [], _, _, _ => rfl
  | [], y :: b, _, _, h => by have := (h y).2 (by simp); simp at this
  | x :: a, [], _, _, h => by have := (h x).1 (by simp); simp at this
  | x :: a, y :: b, ha, hb, h => by
    have ha' := List.pairwise_cons.1 ha
    have hb' := List.pairwise_cons.1 hb
    have hxy : x = y := by
      have h1 := (h x).1 (by simp)
      have h2 := (h y).2 (by simp)
      rcases List.mem_cons.1 h1 with e | h1
      · exact e
      · rcases List.mem_cons.1 h2 with e | h2
        · exact e.symm
        · have := hb'.1 x h1
          have := ha'.1 y h2
          omega
    subst hxy
    rw [asc_ext ha'.2 hb'.2 (fun z => by
      have := h z
      constructor
      · intro hz
        have hz' := this.1 (by simp [hz])
        rcases List.mem_cons.1 hz' with e | hz'
        · subst e
          have := ha'.1 z hz
          omega
        · exact hz'
      · intro hz
        have hz' := this.2 (by simp [hz])
        rcases List.mem_cons.1 hz' with e | hz'
        · subst e
          have := hb'.1 z hz
          omega
        · exact hz')]
def ins (x : Int) : List Int → List Int
  | [] => [x]
  | y :: r => if x < y then x :: y :: r else if x = y then y :: r else y :: ins x r
def ord (l : List Int) : List Int := l.foldr ins []
theorem mem_ins (x z : Int) (l : List Int) : z ∈ ins x l ↔ z = x ∨ z ∈ l := by
  induction l with
  | nil => simp [ins]
  | cons y r ih =>
    unfold ins
    split
    · simp
    · split
      · rename_i h
        subst h
        simp
      · simp only [List.mem_cons, ih]
        constructor
        · rintro (h | h | h)
          · exact .inr (.inl h)
          · exact .inl h
          · exact .inr (.inr h)
        · rintro (h | h | h)
          · exact .inr (.inl h)
          · exact .inl h
          · exact .inr (.inr h)
theorem asc_ins (x : Int) {l : List Int} (h : Asc l) : Asc (ins x l) := by
  induction l with
  | nil => simp [ins]
  | cons y r ih =>
    have h' := List.pairwise_cons.1 h
    unfold ins
    split
    · rename_i hxy
      refine List.pairwise_cons.2 ⟨fun z hz => ?_, h⟩
      rcases List.mem_cons.1 hz with e | hz
      · omega
      · have := h'.1 z hz
        omega
    · split
      · exact h
      · refine List.pairwise_cons.2 ⟨fun z hz => ?_, ih h'.2⟩
        rcases (mem_ins x z r).1 hz with e | hz
        · omega
        · exact h'.1 z hz
theorem mem_ord (z : Int) (l : List Int) : z ∈ ord l ↔ z ∈ l := by
  induction l with
  | nil => simp [ord]
  | cons y r ih =>
    have e : ord (y :: r) = ins y (ord r) := rfl
    rw [e, mem_ins, ih]
    simp
theorem asc_ord (l : List Int) : Asc (ord l) := by
  induction l with
  | nil => simp [ord]
  | cons y r ih => exact asc_ins y ih
theorem ord_len (l : List Int) : (ord l).length ≤ l.length := by
  have hi : ∀ (x : Int) (r : List Int), (ins x r).length ≤ r.length + 1 := by
    intro x r
    induction r with
    | nil => simp [ins]
    | cons y r ih =>
      unfold ins
      split
      · simp
      · split
        · simp
        · simp only [List.length_cons]; omega
  induction l with
  | nil => simp [ord]
  | cons y r ih =>
    have e : ord (y :: r) = ins y (ord r) := rfl
    rw [e]
    have := hi y (ord r)
    simp only [List.length_cons]
    omega
theorem ord_unique {l r : List Int} (h : Asc r) (hm : ∀ x, x ∈ r ↔ x ∈ l) : r = ord l :=
  asc_ext h (asc_ord l) (fun x => (hm x).trans (mem_ord x l).symm)
theorem asc_get {l : List Int} (h : Asc l) {i j : Nat} (hij : i < j) (hj : j < l.length) : l[i]'(by omega) < l[j] := List.pairwise_iff_getElem.1 h i j (by omega) hj hij
end Go.Proofs.Ytmgmdnmfalepkaa.PKit
