import Derived.Test.YtmgmdnmfalepkaaKit
import Derived.Test.YtmgmdnmfalepkaaPKit
namespace Go.Proofs.Ytmgmdnmfalepkaa.Ty
open Go.RowKit Go.Proofs.YtmgmdnmfalepkaaW.PrintWords Go.Proofs.YtmgmdnmfalepkaaW.PrintMore Go.Proofs.Ytmgmdnmfalepkaa.Kit Go.Proofs.Ytmgmdnmfalepkaa.PKit
set_option linter.unusedVariables false
structure Ty (α : Type) where
  K : World → α → Value → Prop
  M : World → Nat → (Nat → Prop) → α → Value → Prop
  K_below : ∀ {w w1 : World} {x v}, Below w.heap.size w w1 → K w x v → K w1 x v
  K_of_M : ∀ {w base ok x v}, M w base ok x v → K w x v
  M_mono : ∀ {w base ok ok' x v}, (∀ k, ok k → ok' k) → M w base ok x v → M w base ok' x v
  M_bound : ∀ {w : World} {base ok x v}, M w base ok x v → M w base (fun k => ok k ∧ base ≤ k ∧ k < w.heap.size) x v
  M_move : ∀ {w w1 : World} {base ok x v}, (∀ k, ok k → w1.heap[k]? = w.heap[k]?) → M w base ok x v → M w1 base ok x v
  M_lower : ∀ {w base base' ok x v}, base' ≤ base → M w base ok x v → M w base' ok x v
namespace Ty
variable {α β : Type} {T : Ty α} {w w1 w0 W : World} {base : Nat} {ok ok' S : Nat → Prop} {x : α} {v : Value}
theorem M_step (h : T.M w base ok x v) (hm : ∀ k, ok k → k < w.heap.size → w1.heap[k]? = w.heap[k]?) : T.M w1 base ok x v :=
  T.M_mono (fun _ hk => hk.1) (T.M_move (fun k hk => hm k hk.1 hk.2.2) (T.M_bound h))
theorem M_below (h : T.M w base ok x v) (hb : Below w.heap.size w w1) : T.M w1 base ok x v := M_step h (fun k _ hk => hb.block k hk)
theorem M_kept (h : T.M w base ok x v) (hk : Kept w w1 S) (hne : ∀ k, ok k → ¬ S k) : T.M w1 base ok x v := M_step h (fun k ho hlt => hk.2 k hlt (hne k ho))
theorem M_beyond (h : T.M w W.heap.size ok x v) : T.M w W.heap.size (fun k => W.heap.size ≤ k ∧ k < w.heap.size) x v := T.M_mono (fun _ hk => hk.2) (T.M_bound h)
def sc (enc : α → Value) : Ty α where
  K := fun _ x v => v = enc x
  M := fun _ _ _ x v => v = enc x
  K_below := fun _ h => h
  K_of_M := fun h => h
  M_mono := fun _ h => h
  M_bound := fun h => h
  M_move := fun _ h => h
  M_lower := fun _ h => h
def row (d : Kd α) (e : Nat) : Ty (List α) where
  K := fun w xs v => ∃ A c, v = .slice A xs.length c ∧ xs.length ≤ c ∧ d.C w A xs.length xs
  M := fun w base ok xs v => d.R e w base ok v xs
  K_below := by
    rintro w w1 x v hb ⟨A, c, rfl, hl, hr⟩
    exact ⟨A, c, rfl, hl, Kd.C_below hr hb⟩
  K_of_M := fun h => Kd.R_reads h
  M_mono := fun hok h => Kd.R_mono h hok
  M_bound := fun h => Kd.R_mono (Kd.R_bound h) (fun _ hk => ⟨hk.1, hk.2.1, hk.2.2.1⟩)
  M_move := fun hm h => Kd.R_move h hm
  M_lower := fun hb h => Kd.R_lower h hb
def rows (d : Kd α) (e : Nat) : Ty (List α) where
  K := fun w xs v => ∃ A c, v = .slice A xs.length c ∧ xs.length ≤ c ∧ d.C w A xs.length xs
  M := fun w base ok xs v => Kd.S d e w base ok v xs
  K_below := by
    rintro w w1 x v hb ⟨A, c, rfl, hl, hr⟩
    exact ⟨A, c, rfl, hl, Kd.C_below hr hb⟩
  K_of_M := fun h => Kd.S_reads h
  M_mono := fun hok h => Kd.S_mono h hok
  M_bound := fun h => Kd.S_mono (Kd.S_bound h) (fun _ hk => ⟨hk.1, hk.2.1, hk.2.2.1⟩)
  M_move := fun hm h => Kd.S_move h hm
  M_lower := fun hb h => Kd.S_lower h hb
end Ty
structure Tys (α : Type) where
  K : World → α → List Value → Prop
  M : World → Nat → (Nat → Prop) → α → List Value → Prop
  K_below : ∀ {w w1 : World} {x v}, Below w.heap.size w w1 → K w x v → K w1 x v
  K_of_M : ∀ {w base ok x v}, M w base ok x v → K w x v
  M_mono : ∀ {w base ok ok' x v}, (∀ k, ok k → ok' k) → M w base ok x v → M w base ok' x v
  M_bound : ∀ {w : World} {base ok x v}, M w base ok x v → M w base (fun k => ok k ∧ base ≤ k ∧ k < w.heap.size) x v
  M_move : ∀ {w w1 : World} {base ok x v}, (∀ k, ok k → w1.heap[k]? = w.heap[k]?) → M w base ok x v → M w1 base ok x v
  M_lower : ∀ {w base base' ok x v}, base' ≤ base → M w base ok x v → M w base' ok x v
namespace Tys
variable {α β : Type}
def one (a : Ty α) : Tys α where
  K := fun w x l => ∃ v, l = [v] ∧ a.K w x v
  M := fun w base ok x l => ∃ v, l = [v] ∧ a.M w base ok x v
  K_below := by
    rintro w w1 x l hb ⟨v, rfl, h⟩
    exact ⟨v, rfl, a.K_below hb h⟩
  K_of_M := by
    rintro w base ok x l ⟨v, rfl, h⟩
    exact ⟨v, rfl, a.K_of_M h⟩
  M_mono := by
    rintro w base ok ok' x l hok ⟨v, rfl, h⟩
    exact ⟨v, rfl, a.M_mono hok h⟩
  M_bound := by
    rintro w base ok x l ⟨v, rfl, h⟩
    exact ⟨v, rfl, a.M_bound h⟩
  M_move := by
    rintro w w1 base ok x l hm ⟨v, rfl, h⟩
    exact ⟨v, rfl, a.M_move hm h⟩
  M_lower := by
    rintro w base base' ok x l hb ⟨v, rfl, h⟩
    exact ⟨v, rfl, a.M_lower hb h⟩
def cons (a : Ty α) (b : Tys β) : Tys (α × β) where
  K := fun w x l => ∃ v r, l = v :: r ∧ a.K w x.1 v ∧ b.K w x.2 r
  M := fun w base ok x l => ∃ v r ok1 ok2, l = v :: r ∧ (∀ k, ok1 k → ok k) ∧ (∀ k, ok2 k → ok k ∧ ¬ ok1 k) ∧ a.M w base ok1 x.1 v ∧ b.M w base ok2 x.2 r
  K_below := by
    rintro w w1 x l hb ⟨v, r, rfl, h1, h2⟩
    exact ⟨v, r, rfl, a.K_below hb h1, b.K_below hb h2⟩
  K_of_M := by
    rintro w base ok x l ⟨v, r, ok1, ok2, rfl, _, _, h1, h2⟩
    exact ⟨v, r, rfl, a.K_of_M h1, b.K_of_M h2⟩
  M_mono := by
    rintro w base ok ok' x l hok ⟨v, r, ok1, ok2, rfl, e1, e2, h1, h2⟩
    exact ⟨v, r, ok1, ok2, rfl, fun k hk => hok k (e1 k hk), fun k hk => ⟨hok k (e2 k hk).1, (e2 k hk).2⟩, h1, h2⟩
  M_bound := by
    rintro w base ok x l ⟨v, r, ok1, ok2, rfl, e1, e2, h1, h2⟩
    exact ⟨v, r, _, _, rfl, fun k hk => ⟨e1 k hk.1, hk.2⟩, fun k hk => ⟨⟨(e2 k hk.1).1, hk.2⟩, fun hk' => (e2 k hk.1).2 hk'.1⟩, a.M_bound h1, b.M_bound h2⟩
  M_move := by
    rintro w w1 base ok x l hm ⟨v, r, ok1, ok2, rfl, e1, e2, h1, h2⟩
    exact ⟨v, r, ok1, ok2, rfl, e1, e2, a.M_move (fun k hk => hm k (e1 k hk)) h1, b.M_move (fun k hk => hm k (e2 k hk).1) h2⟩
  M_lower := by
    rintro w base base' ok x l hb ⟨v, r, ok1, ok2, rfl, e1, e2, h1, h2⟩
    exact ⟨v, r, ok1, ok2, rfl, e1, e2, a.M_lower hb h1, b.M_lower hb h2⟩
end Tys
def Ty.agg {α : Type} (t : Tys α) : Ty α where
  K := fun w x v => ∃ l, v = .agg l.toArray ∧ t.K w x l
  M := fun w base ok x v => ∃ l, v = .agg l.toArray ∧ t.M w base ok x l
  K_below := by
    rintro w w1 x v hb ⟨l, rfl, h⟩
    exact ⟨l, rfl, t.K_below hb h⟩
  K_of_M := by
    rintro w base ok x v ⟨l, rfl, h⟩
    exact ⟨l, rfl, t.K_of_M h⟩
  M_mono := by
    rintro w base ok ok' x v hok ⟨l, rfl, h⟩
    exact ⟨l, rfl, t.M_mono hok h⟩
  M_bound := by
    rintro w base ok x v ⟨l, rfl, h⟩
    exact ⟨l, rfl, t.M_bound h⟩
  M_move := by
    rintro w w1 base ok x v hm ⟨l, rfl, h⟩
    exact ⟨l, rfl, t.M_move hm h⟩
  M_lower := by
    rintro w base base' ok x v hb ⟨l, rfl, h⟩
    exact ⟨l, rfl, t.M_lower hb h⟩
end Go.Proofs.Ytmgmdnmfalepkaa.Ty
