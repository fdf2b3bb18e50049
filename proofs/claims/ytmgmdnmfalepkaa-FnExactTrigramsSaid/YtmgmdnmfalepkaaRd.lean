/- From the form's reading of an argument to what its cells say, type by type. No Go function is spoken of here. -/
import Derived.Test.YtmgmdnmfalepkaaKit
import Derived.ProofKit
import Derived.Deep.Slices
import Derived.ChangeArms
namespace Go.Proofs.Ytmgmdnmfalepkaa.Rd
open Go.RowKit Go.Proofs.YtmgmdnmfalepkaaW.PrintWords Go.Proofs.Ytmgmdnmfalepkaa.Kit Go.Deep

/-- Whatever the form can read as type t is of kind d, and meets V. -/
def Rd {α : Type} (P : Program) (d : Kd α) (t : TypeId) (V : α → Prop) : Prop :=
  ∀ (H : Type) (enc : TypeId × Value → H) (w : World) (fuel : Nat) (cs : List Value) (x : DataW H × List MemPlace), DataW.trod enc P w 0 (fun _ => true) true fuel t cs = some x → ∃ y, d.K w y cs ∧ V y
/-- The same of a struct's fields from cell off on. -/
def RdF {α : Type} (P : Program) (d : Kd α) (fl : List Field) (off : Nat) (V : α → Prop) : Prop :=
  ∀ (H : Type) (enc : TypeId × Value → H) (w : World) (cs : List Value), cs.length = off + d.sz → (∀ f ∈ fl, ∃ fuel y, DataW.trod enc P w 0 (fun _ => true) true fuel f.type ((cs.drop f.offset).take (P.cellsOf f.type)) = some y) → ∃ y, d.K w y (cs.drop off) ∧ V y
section
variable {P : Program}
theorem rd_int {k : IntKind} {t : TypeId} (ht : P.underlying t = some (.int k)) : Rd P (Kd.int k) t (fun y => (Lit.int k y).wf = true) := by
  intro H enc w fuel cs x h
  obtain ⟨n, rfl, _, hw⟩ := DataW.trod_int ht h
  exact ⟨n, rfl, hw⟩
theorem rd_bool {t : TypeId} (ht : P.underlying t = some .bool) : Rd P Kd.bool t (fun _ => True) := by
  intro H enc w fuel cs x h
  obtain ⟨n, rfl, _⟩ := DataW.trod_bool ht h
  exact ⟨n, rfl, trivial⟩
theorem rd_slice {α : Type} {d : Kd α} {t e : TypeId} {V : α → Prop} (ht : P.underlying t = some (.slice e)) (hs : P.cellsOf e = d.sz) (h : Rd P d e V) : Rd P (Kd.slice e d) t (fun ys => ys.length ≤ maxLen ∧ ∀ y ∈ ys, V y) := by
  intro H enc w fuel cs x hx
  rcases open_slice ht hx with ⟨rfl, _⟩ | ⟨a, len, cap, m, n, D, Pl, rfl, _, hl, hm, hmm, _, hel⟩
  · refine ⟨[], ⟨none, 0, rfl, by simp, ⟨rfl, by simp, fun h0 => absurd h0 (Nat.lt_irrefl 0)⟩⟩, by simp, by simp⟩
  · simp only [if_true] at hmm
    subst hmm
    have hch : ∀ i, i < len → ∃ y cs', w.cells? 0 (a.add (i * d.sz)) d.sz = some cs' ∧ d.K w y cs' ∧ V y := by
      intro i hi
      obtain ⟨cs', h1, h2⟩ := hel i (by omega)
      rw [hs] at h1
      obtain ⟨y, hK, hV⟩ := h H enc w n cs' _ h2
      exact ⟨y, cs', h1, hK, hV⟩
    have hall : ∀ k, k ≤ len → ∃ ys : List α, ys.length = k ∧ (∀ j p, ys[j]? = some p → ∃ c, c.length = d.sz ∧ d.K w p c ∧ ∀ i u, c[i]? = some u → w.cell? (a.add (j * d.sz + i)) = some u) ∧ ∀ y ∈ ys, V y := by
      intro k
      induction k with
      | zero => intro _; exact ⟨[], rfl, by simp, by simp⟩
      | succ k ih =>
        intro hk
        obtain ⟨ys, hlen, hr, hV⟩ := ih (by omega)
        obtain ⟨y, cs', h1, hK, hVy⟩ := hch k (by omega)
        obtain ⟨_, hl', hcell⟩ := World.cells?_some h1
        refine ⟨ys ++ [y], by simp [hlen], fun j p hj => ?_, fun z hz => ?_⟩
        · by_cases hjk : j < k
          · rw [List.getElem?_append_left (by omega)] at hj
            exact hr j p hj
          · rw [List.getElem?_append_right (by omega)] at hj
            have hjz : j - ys.length = 0 := by
              rcases Nat.eq_zero_or_pos (j - ys.length) with h0 | h0
              · exact h0
              · rw [List.getElem?_eq_none (by simp; omega)] at hj
                cases hj
            rw [hjz] at hj
            simp only [List.getElem?_cons_zero, Option.some.injEq] at hj
            subst hj
            have hjk2 : j = k := by omega
            subst hjk2
            refine ⟨cs', hl', hK, fun i u hu => ?_⟩
            have hi : i < d.sz := by rw [← hl']; exact (List.getElem?_eq_some_iff.1 hu).1
            have := hcell i hi
            rw [hu, Addr.add_add] at this
            exact this
        · rcases List.mem_append.1 hz with hz | hz
          · exact hV z hz
          · rw [List.mem_singleton.1 hz]
            exact hVy
    obtain ⟨ys, hlen, hr, hV⟩ := hall len (Nat.le_refl _)
    refine ⟨ys, ⟨some a, m, by rw [hlen], by omega, ⟨rfl, by rw [hlen]; unfold maxLen at hm; omega, fun _ => ⟨a, rfl, hr⟩⟩⟩, by omega, hV⟩
theorem rdF_last {α : Type} {d : Kd α} {f : Field} {off : Nat} {V : α → Prop} (ho : f.offset = off) (hn : P.cellsOf f.type = d.sz) (h : Rd P d f.type V) : RdF P d [f] off V := by
  intro H enc w cs hlen hf
  obtain ⟨fuel, y, hy⟩ := hf f (by simp)
  rw [ho, hn, List.take_of_length_le (by simp; omega)] at hy
  exact h H enc w fuel _ _ hy
theorem rdF_cons {α β : Type} {a : Kd α} {b : Kd β} {f : Field} {fl : List Field} {off : Nat} {V : α → Prop} {U : β → Prop} (ho : f.offset = off) (ha : P.cellsOf f.type = a.sz) (h : Rd P a f.type V) (hr : RdF P b fl (off + a.sz) U) :
    RdF P (Kd.pair a b) (f :: fl) off (fun y => V y.1 ∧ U y.2) := by
  intro H enc w cs hlen hf
  obtain ⟨fuel, y, hy⟩ := hf f (by simp)
  rw [ho, ha] at hy
  obtain ⟨y0, h0, v0⟩ := h H enc w fuel _ _ hy
  obtain ⟨y1, h1, v1⟩ := hr H enc w cs (by rw [hlen]; show off + (a.sz + b.sz) = _; omega) (fun g hg => hf g (by simp [hg]))
  refine ⟨(y0, y1), ⟨_, _, ?_, h0, h1⟩, v0, v1⟩
  rw [← List.drop_drop, List.take_append_drop]
theorem rd_struct {α β : Type} {d : Kd α} {t : TypeId} {fs : Array Field} {V : α → Prop} (ht : P.underlying t = some (.struct fs)) (hn : P.cellsOf t = d.sz) (h : RdF P d fs.toList 0 V) (f : β → α) (g : α → β) (hfg : ∀ x, f (g x) = x) : Rd P (Kd.iso d f) t (fun y => V (f y)) := by
  intro H enc w fuel cs x hx
  obtain ⟨xs, m, _, _, hlen, hxl, hf⟩ := DataW.trod_struct ht hx
  obtain ⟨y, hK, hV⟩ := h H enc w cs (by rw [hlen, hn]; omega) (fun fd hfd => by
    obtain ⟨i, hi, he⟩ := List.getElem_of_mem hfd
    have h1 : fs[i]? = some fd := by
      rw [Array.getElem?_eq_getElem (by simpa using hi)]
      simpa using he
    have h2 := hf i fd h1
    have hix : i < xs.length := by rw [hxl]; simpa using hi
    rw [List.getElem?_eq_getElem hix] at h2
    exact ⟨m, _, h2⟩)
  refine ⟨g y, ?_, by show V (f (g y)); rw [hfg]; exact hV⟩
  show d.K w (f (g y)) cs
  rw [hfg]
  simpa using hK
/-- The fields' cells alone. -/
theorem rd_struct_cells {α : Type} {d : Kd α} {t : TypeId} {fs : Array Field} {V : α → Prop} (ht : P.underlying t = some (.struct fs)) (hn : P.cellsOf t = d.sz) (h : RdF P d fs.toList 0 V) : Rd P d t V := by
  intro H enc w fuel cs x hx
  obtain ⟨y, hK, hV⟩ := rd_struct ht hn h id id (fun _ => rfl) H enc w fuel cs x hx
  exact ⟨y, hK, hV⟩
end
end Go.Proofs.Ytmgmdnmfalepkaa.Rd
