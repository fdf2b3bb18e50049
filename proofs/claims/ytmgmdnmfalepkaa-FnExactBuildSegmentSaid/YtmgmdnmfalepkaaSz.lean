import Derived.Test.YtmgmdnmfalepkaaHelpBB
import Derived.Test.YtmgmdnmfalepkaaHelpII
import Derived.Test.YtmgmdnmfalepkaaLby
import Derived.Test.YtmgmdnmfalepkaaLin
namespace Go.Proofs.Ytmgmdnmfalepkaa.Ty
open Go.RowKit Go.Proofs.YtmgmdnmfalepkaaW.PrintWords Go.Proofs.YtmgmdnmfalepkaaW.PrintMore Go.Proofs.Ytmgmdnmfalepkaa.Kit Go.Proofs.Ytmgmdnmfalepkaa.PKit
set_option linter.unusedVariables false
theorem Ty.M_set {α : Type} {T : Ty α} {w : World} {base : Nat} {ok : Nat → Prop} {x : α} {v : Value} (h : T.M w base ok x v) {g j : Nat} (hne : ∀ k, ok k → k = g → False) (u : Value) : T.M (w.setCell ⟨g, j, none⟩ u) base ok x v :=
  T.M_move (fun k hk => Below.heap_setCell w ⟨g, j, none⟩ u k (fun e => hne k hk e)) h
theorem Tys.M_one {α : Type} {a : Ty α} {w : World} {base : Nat} {ok : Nat → Prop} {x : α} {v : Value} (h : a.M w base ok x v) : (Tys.one a).M w base ok x [v] := ⟨v, rfl, h⟩
theorem Tys.cons_apart {α β : Type} {a : Ty α} {b : Tys β} {w : World} {base : Nat} {ok1 ok2 : Nat → Prop} {x : α} {y : β} {v : Value} {r : List Value} (h1 : a.M w base ok1 x v) (h2 : b.M w base ok2 y r) (hd : ∀ k, ok2 k → ok1 k → False) :
    (Tys.cons a b).M w base (fun k => ok1 k ∨ ok2 k) (x, y) (v :: r) :=
  ⟨v, r, ok1, ok2, rfl, fun _ h => .inl h, fun k h => ⟨.inr h, fun h' => hd k h h'⟩, h1, h2⟩
end Go.Proofs.Ytmgmdnmfalepkaa.Ty
namespace Go.Proofs.Ytmgmdnmfalepkaa.HelpBB
open Go.RowKit Go.Proofs.YtmgmdnmfalepkaaW.PrintWords Go.Proofs.Ytmgmdnmfalepkaa.PKit Go.Proofs.Ytmgmdnmfalepkaa.L Go.Proofs.Ytmgmdnmfalepkaa.Ty
theorem lens {x : List (List Int)} (hK : ∃ w v, tBB.K w x v) : x.length ≤ 9223372036854775807 ∧ ∀ i, (x.getD i []).length ≤ 9223372036854775807 := by
  obtain ⟨w, v, A, c, rfl, hc, hr⟩ := hK
  refine ⟨hr.2.1, fun i => ?_⟩
  by_cases hi : i < x.length
  · obtain ⟨ad, e, h⟩ := hr.2.2 (by omega)
    obtain ⟨cs, _, hK, _⟩ := h i (x.getD i []) (by simp [List.getD, List.getElem?_eq_getElem hi])
    obtain ⟨A', c', _, _, hr'⟩ := hK
    exact hr'.2.1
  · simp [List.getD, List.getElem?_eq_none (Nat.le_of_not_lt hi)]
theorem sz_ev (x : List (List Int)) (left : Int) (h0 : 0 ≤ left) (h1 : left ≤ 1048576) (hK : ∃ w v, tBB.K w x v) :
    ∃ r, Ev (fun k => laws_szByteSS.f k x left) r ∧ (0 ≤ r → r + ((x.length + totalB x : Nat) : Int) = left) := by
  obtain ⟨hl, hi⟩ := lens hK
  have hb : -9223372036854775808 ≤ left - (x.length : Int) ∧ left - (x.length : Int) ≤ 9223372036854775807 := by omega
  by_cases hneg : left - (x.length : Int) < 0
  · refine ⟨-1, Ev.congr (f := fun _ => some (-1)) (fun k => ?_) (Ev.now _), by omega⟩
    simp only [laws_szByteSS.f]
    rw [wrap_in hb, if_pos hneg]
  have key : ∀ (d i : Nat) (l : Int), i + d = x.length → 0 ≤ l → l ≤ 1048576 → ∃ r, Ev (fun k => laws_szByteSS.l0 k x l (i : Int)) r ∧ (0 ≤ r → r + ((totalB (x.drop i) : Nat) : Int) = l) := by
    intro d
    induction d with
    | zero =>
      intro i l hd l0 l1
      refine ⟨l, Ev.step (f := fun _ => some l) (fun k => ?_) (Ev.now _), fun _ => ?_⟩
      · simp only [laws_szByteSS.l0]
        rw [if_neg (by omega)]
      · rw [List.drop_of_length_le (by omega)]
        simp [totalB]
    | succ d ih =>
      intro i l hd l0 l1
      have hlt : i < x.length := by omega
      have hg : rd_L1 x (i : Int) = x.getD i [] := rfl
      have hli := hi i
      have hb2 : -9223372036854775808 ≤ l - ((x.getD i []).length : Int) ∧ l - ((x.getD i []).length : Int) ≤ 9223372036854775807 := by omega
      have hdr : x.drop i = x.getD i [] :: x.drop (i + 1) := by
        rw [List.drop_eq_getElem_cons hlt]
        simp [List.getD, List.getElem?_eq_getElem hlt]
      by_cases hn : l - ((x.getD i []).length : Int) < 0
      · refine ⟨-1, Ev.step (f := fun _ => some (-1)) (fun k => ?_) (Ev.now _), by omega⟩
        simp only [laws_szByteSS.l0]
        rw [if_pos (by omega), if_pos (by omega), hg]
        simp only [laws_szByteS.f]
        rw [wrap_in hb2, if_pos hn, Option.bind_some, if_pos (by decide)]
      · obtain ⟨r, hr, hq⟩ := ih (i + 1) (l - ((x.getD i []).length : Int)) (by omega) (by omega) (by omega)
        refine ⟨r, Ev.step (fun k => ?_) hr, fun h => ?_⟩
        · simp only [laws_szByteSS.l0]
          rw [if_pos (by omega), if_pos (by omega), hg]
          simp only [laws_szByteS.f]
          rw [wrap_in hb2, if_neg hn, Option.bind_some, if_neg hn, wrap_succ i (by omega)]
        · have := hq h
          rw [hdr]
          simp only [totalB]
          omega
  obtain ⟨r, hr, hq⟩ := key x.length 0 (left - (x.length : Int)) (by omega) (by omega) (by omega)
  refine ⟨r, Ev.congr (fun k => ?_) hr, fun h => ?_⟩
  · simp only [laws_szByteSS.f]
    rw [wrap_in hb, if_neg hneg]
    rfl
  · have := hq h
    rw [List.drop_zero] at this
    omega
theorem sz_pure (x : List (List Int)) (left : Int) (h0 : 0 ≤ left) (h1 : left ≤ 1048576) (hK : ∃ w v, tBB.K w x v) :
    ∃ r, (0 ≤ r → 0 ≤ r ∧ r ≤ left ∧ smallBB x) ∧ ∀ (w : World) {v : Value}, tBB.K w x v → Calls Try.prog 37 #[v, .int .i64 left] w fun e w' => e = .returned (.int .i64 r) ∧ Below w.heap.size w w' := by
  obtain ⟨r, hr, hq⟩ := sz_ev x left h0 h1 hK
  obtain ⟨k, hk⟩ := hr.rounds
  refine ⟨r, fun h => ⟨h, by have := hq h; omega, by show x.length + totalB x ≤ 1048576; have := hq h; omega⟩, fun w v hv => ?_⟩
  obtain ⟨A, c, rfl, hc, hr⟩ := hv
  refine (laws_szByteSS.calls k A c x left r w hr hc hk).mono ?_
  rintro e w' ⟨rfl, h⟩
  exact ⟨rfl, h.below⟩
end Go.Proofs.Ytmgmdnmfalepkaa.HelpBB
namespace Go.Proofs.Ytmgmdnmfalepkaa.HelpII
open Go.RowKit Go.Proofs.YtmgmdnmfalepkaaW.PrintWords Go.Proofs.Ytmgmdnmfalepkaa.PKit Go.Proofs.Ytmgmdnmfalepkaa.L Go.Proofs.Ytmgmdnmfalepkaa.Ty
theorem lens {x : List (List Int)} (hK : ∃ w v, tII.K w x v) : x.length ≤ 9223372036854775807 ∧ ∀ i, (x.getD i []).length ≤ 9223372036854775807 := by
  obtain ⟨w, v, A, c, rfl, hc, hr⟩ := hK
  refine ⟨hr.2.1, fun i => ?_⟩
  by_cases hi : i < x.length
  · obtain ⟨ad, e, h⟩ := hr.2.2 (by omega)
    obtain ⟨cs, _, hK, _⟩ := h i (x.getD i []) (by simp [List.getD, List.getElem?_eq_getElem hi])
    obtain ⟨A', c', _, _, hr'⟩ := hK
    exact hr'.2.1
  · simp [List.getD, List.getElem?_eq_none (Nat.le_of_not_lt hi)]
theorem sz_ev (x : List (List Int)) (left : Int) (h0 : 0 ≤ left) (h1 : left ≤ 1048576) (hK : ∃ w v, tII.K w x v) :
    ∃ r, Ev (fun k => laws_szIntSS.f k x left) r ∧ (0 ≤ r → r + ((x.length + totalI x : Nat) : Int) = left) := by
  obtain ⟨hl, hi⟩ := lens hK
  have hb : -9223372036854775808 ≤ left - (x.length : Int) ∧ left - (x.length : Int) ≤ 9223372036854775807 := by omega
  by_cases hneg : left - (x.length : Int) < 0
  · refine ⟨-1, Ev.congr (f := fun _ => some (-1)) (fun k => ?_) (Ev.now _), by omega⟩
    simp only [laws_szIntSS.f]
    rw [wrap_in hb, if_pos hneg]
  have key : ∀ (d i : Nat) (l : Int), i + d = x.length → 0 ≤ l → l ≤ 1048576 → ∃ r, Ev (fun k => laws_szIntSS.l0 k x l (i : Int)) r ∧ (0 ≤ r → r + ((totalI (x.drop i) : Nat) : Int) = l) := by
    intro d
    induction d with
    | zero =>
      intro i l hd l0 l1
      refine ⟨l, Ev.step (f := fun _ => some l) (fun k => ?_) (Ev.now _), fun _ => ?_⟩
      · simp only [laws_szIntSS.l0]
        rw [if_neg (by omega)]
      · rw [List.drop_of_length_le (by omega)]
        simp [totalI]
    | succ d ih =>
      intro i l hd l0 l1
      have hlt : i < x.length := by omega
      have hg : rd_L3 x (i : Int) = x.getD i [] := rfl
      have hli := hi i
      have hb2 : -9223372036854775808 ≤ l - ((x.getD i []).length : Int) ∧ l - ((x.getD i []).length : Int) ≤ 9223372036854775807 := by omega
      have hdr : x.drop i = x.getD i [] :: x.drop (i + 1) := by
        rw [List.drop_eq_getElem_cons hlt]
        simp [List.getD, List.getElem?_eq_getElem hlt]
      by_cases hn : l - ((x.getD i []).length : Int) < 0
      · refine ⟨-1, Ev.step (f := fun _ => some (-1)) (fun k => ?_) (Ev.now _), by omega⟩
        simp only [laws_szIntSS.l0]
        rw [if_pos (by omega), if_pos (by omega), hg]
        simp only [laws_szIntS.f]
        rw [wrap_in hb2, if_pos hn, Option.bind_some, if_pos (by decide)]
      · obtain ⟨r, hr, hq⟩ := ih (i + 1) (l - ((x.getD i []).length : Int)) (by omega) (by omega) (by omega)
        refine ⟨r, Ev.step (fun k => ?_) hr, fun h => ?_⟩
        · simp only [laws_szIntSS.l0]
          rw [if_pos (by omega), if_pos (by omega), hg]
          simp only [laws_szIntS.f]
          rw [wrap_in hb2, if_neg hn, Option.bind_some, if_neg hn, wrap_succ i (by omega)]
        · have := hq h
          rw [hdr]
          simp only [totalI]
          omega
  obtain ⟨r, hr, hq⟩ := key x.length 0 (left - (x.length : Int)) (by omega) (by omega) (by omega)
  refine ⟨r, Ev.congr (fun k => ?_) hr, fun h => ?_⟩
  · simp only [laws_szIntSS.f]
    rw [wrap_in hb, if_neg hneg]
    rfl
  · have := hq h
    rw [List.drop_zero] at this
    omega
theorem sz_pure (x : List (List Int)) (left : Int) (h0 : 0 ≤ left) (h1 : left ≤ 1048576) (hK : ∃ w v, tII.K w x v) :
    ∃ r, (0 ≤ r → 0 ≤ r ∧ r ≤ left ∧ smallII x) ∧ ∀ (w : World) {v : Value}, tII.K w x v → Calls Try.prog 77 #[v, .int .i64 left] w fun e w' => e = .returned (.int .i64 r) ∧ Below w.heap.size w w' := by
  obtain ⟨r, hr, hq⟩ := sz_ev x left h0 h1 hK
  obtain ⟨k, hk⟩ := hr.rounds
  refine ⟨r, fun h => ⟨h, by have := hq h; omega, by show x.length + totalI x ≤ 1048576; have := hq h; omega⟩, fun w v hv => ?_⟩
  obtain ⟨A, c, rfl, hc, hr⟩ := hv
  refine (laws_szIntSS.calls k A c x left r w hr hc hk).mono ?_
  rintro e w' ⟨rfl, h⟩
  exact ⟨rfl, h.below⟩
end Go.Proofs.Ytmgmdnmfalepkaa.HelpII
namespace Go.Proofs.Ytmgmdnmfalepkaa.HelpI
open Go.RowKit Go.Proofs.YtmgmdnmfalepkaaW.PrintWords Go.Proofs.Ytmgmdnmfalepkaa.PKit Go.Proofs.Ytmgmdnmfalepkaa.L Go.Proofs.Ytmgmdnmfalepkaa.Ty
theorem sz_ev (x : List Int) (left : Int) (h0 : 0 ≤ left) (h1 : left ≤ 1048576) (hK : ∃ w v, tI.K w x v) :
    ∃ r, Ev (fun _ => laws_szIntS.f x left) r ∧ (0 ≤ r → r + (x.length : Int) = left) := by
  obtain ⟨w, v, A, c, rfl, hc, hr⟩ := hK
  have hl := hr.2.1
  have hb : -9223372036854775808 ≤ left - (x.length : Int) ∧ left - (x.length : Int) ≤ 9223372036854775807 := by omega
  by_cases hneg : left - (x.length : Int) < 0
  · refine ⟨-1, Ev.congr (f := fun _ => some (-1)) (fun k => ?_) (Ev.now _), by omega⟩
    simp only [laws_szIntS.f]
    rw [wrap_in hb, if_pos hneg]
  · refine ⟨left - (x.length : Int), Ev.congr (f := fun _ => some _) (fun k => ?_) (Ev.now _), by omega⟩
    simp only [laws_szIntS.f]
    rw [wrap_in hb, if_neg hneg]
end Go.Proofs.Ytmgmdnmfalepkaa.HelpI
