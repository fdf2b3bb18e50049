import Derived.Test.YtmgmdnmfalepkaaKit
import Derived.ProofKit
import Derived.Deep.Slices
import Derived.ChangeArms
namespace Go.Proofs.Ytmgmdnmfalepkaa.Rd
open Go.RowKit Go.Proofs.YtmgmdnmfalepkaaW.PrintWords Go.Proofs.Ytmgmdnmfalepkaa.Kit Go.Deep
def Rd {α : Type} (P : Program) (d : Kd α) (t : TypeId) (V : α → Prop) : Prop :=
  ∀ (H : Type) (enc : TypeId × Value → H) (w : World) (fuel : Nat) (cs : List Value) (x : DataW H × List MemPlace), DataW.trod enc P w 0 (fun _ => true) true fuel t cs = some x → ∃ y, d.K w y cs ∧ V y
section
variable {P : Program}
theorem rd_int {k : IntKind} {t : TypeId} (ht : P.underlying t = some (.int k)) : Rd P (Kd.int k) t (fun y => (Lit.int k y).wf = true) := by
  intro H enc w fuel cs x h
  obtain ⟨n, rfl, _, hw⟩ := DataW.trod_int ht h
  exact ⟨n, rfl, hw⟩
theorem rd_slice {α : Type} {d : Kd α} {t e : TypeId} {V : α → Prop} (ht : P.underlying t = some (.slice e)) (hs : P.cellsOf e = d.sz) (h : Rd P d e V) : Rd P (Kd.slice e d) t (fun ys => ys.length ≤ maxLen ∧ ∀ y ∈ ys, V y) := by
  intro H enc w fuel cs x hx
  rcases open_slice ht hx with ⟨rfl, _⟩ | ⟨a, len, cap, m, n, D, Pl, rfl, _, hl, hm, hmm, _, hel⟩
  · refine ⟨[], ⟨none, 0, rfl, by simp, ⟨rfl, by simp, fun h0 => absurd h0 (Nat.lt_irrefl 0)⟩⟩, by simp, by simp⟩
  · simp only [if_true] at hmm
    subst hmm
    have hch : ∀ i, i < len → ∃ y cs', w.cells? 0 (a.add (i * d.sz)) d.sz = some cs' ∧ d.K w y cs' ∧ V y := by
      intro i hi
      obtain ⟨cs', h1, h2⟩ := hel i (by omega)
      rw [hs] at h1
      obtain ⟨y, hK, hV⟩ := h H enc w n cs' _ h2
      exact ⟨y, cs', h1, hK, hV⟩
    have hall : ∀ k, k ≤ len → ∃ ys : List α, ys.length = k ∧ (∀ j p, ys[j]? = some p → ∃ c, c.length = d.sz ∧ d.K w p c ∧ ∀ i u, c[i]? = some u → w.cell? (a.add (j * d.sz + i)) = some u) ∧ ∀ y ∈ ys, V y := by
      intro k
      induction k with
      | zero => intro _; exact ⟨[], rfl, by simp, by simp⟩
      | succ k ih =>
        intro hk
        obtain ⟨ys, hlen, hr, hV⟩ := ih (by omega)
        obtain ⟨y, cs', h1, hK, hVy⟩ := hch k (by omega)
        obtain ⟨_, hl', hcell⟩ := World.cells?_some h1
        refine ⟨ys ++ [y], by simp [hlen], fun j p hj => ?_, fun z hz => ?_⟩
        · by_cases hjk : j < k
          · rw [List.getElem?_append_left (by omega)] at hj
            exact hr j p hj
          · rw [List.getElem?_append_right (by omega)] at hj
            have hjz : j - ys.length = 0 := by
              rcases Nat.eq_zero_or_pos (j - ys.length) with h0 | h0
              · exact h0
              · rw [List.getElem?_eq_none (by simp; omega)] at hj
                cases hj
            rw [hjz] at hj
            simp only [List.getElem?_cons_zero, Option.some.injEq] at hj
            subst hj
            have hjk2 : j = k := by omega
            subst hjk2
            refine ⟨cs', hl', hK, fun i u hu => ?_⟩
            have hi : i < d.sz := by rw [← hl']; exact (List.getElem?_eq_some_iff.1 hu).1
            have := hcell i hi
            rw [hu, Addr.add_add] at this
            exact this
        · rcases List.mem_append.1 hz with hz | hz
          · exact hV z hz
          · rw [List.mem_singleton.1 hz]
            exact hVy
    obtain ⟨ys, hlen, hr, hV⟩ := hall len (Nat.le_refl _)
    refine ⟨ys, ⟨some a, m, by rw [hlen], by omega, ⟨rfl, by rw [hlen]; unfold maxLen at hm; omega, fun _ => ⟨a, rfl, hr⟩⟩⟩, by omega, hV⟩
end
end Go.Proofs.Ytmgmdnmfalepkaa.Rd
