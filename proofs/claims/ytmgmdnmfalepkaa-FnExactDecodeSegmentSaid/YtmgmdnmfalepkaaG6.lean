/- Parts of the proof (see the row's own text): HelpII, Sz, Lszs, HelpSeg. -/
import Derived.Test.YtmgmdnmfalepkaaG5
import Derived.Test.YtmgmdnmfalepkaaG4
namespace Go.Proofs.Ytmgmdnmfalepkaa.HelpII
open Go.RowKit Go.Proofs.YtmgmdnmfalepkaaW.PrintWords Go.Proofs.YtmgmdnmfalepkaaW.PrintMore Go.Proofs.Ytmgmdnmfalepkaa.Kit Go.Proofs.Ytmgmdnmfalepkaa.PKit Go.Proofs.Ytmgmdnmfalepkaa.Ty Go.Proofs.Ytmgmdnmfalepkaa.HelpI
open Go.Proofs.Ytmgmdnmfalepkaa.L
set_option linter.unusedVariables false
abbrev kI := Kd.slice 3 (Kd.int .i64)
abbrev tII : Ty (List (List Int)) := Ty.rows kI 22
def totalI : List (List Int) → Nat
  | [] => 0
  | x :: r => x.length + totalI r
abbrev cntII (x : List (List Int)) : Nat := totalI x
abbrev bdII (x : List (List Int)) : Prop := x.length ≤ 1099511627776 ∧ totalI x ≤ 1099511627776
abbrev smallII (x : List (List Int)) : Prop := x.length + totalI x ≤ 1048576
theorem bd_small {x : List (List Int)} (h : smallII x) : bdII x := ⟨by have : x.length + totalI x ≤ 1048576 := h; omega, by have : x.length + totalI x ≤ 1048576 := h; omega⟩
theorem cnt_small {x : List (List Int)} (h : smallII x) : cntII x ≤ 1048576 := by have : x.length + totalI x ≤ 1048576 := h; show totalI x ≤ _; omega
def markII (a : Int) : List (List Int) → List (List Int)
  | [] => []
  | x :: r => markI a x :: markII (a + x.length) r
def part (a : Int) (xs : List (List Int)) (i : Nat) : List (List Int) := markII a (xs.take i) ++ xs.drop i
theorem markII_len (xs : List (List Int)) : ∀ a, (markII a xs).length = xs.length := by
  induction xs with
  | nil => intro a; rfl
  | cons x r ih => intro a; simp [markII, ih]
theorem mark_snoc (xs : List (List Int)) (x : List Int) : ∀ a, markII a (xs ++ [x]) = markII a xs ++ [markI (a + totalI xs) x] := by
  induction xs with
  | nil => intro a; simp [markII, totalI]
  | cons y r ih =>
    intro a
    simp only [List.cons_append, markII, ih, totalI]
    congr 4
    omega
theorem total_snoc (xs : List (List Int)) (x : List Int) : totalI (xs ++ [x]) = totalI xs + x.length := by
  induction xs with
  | nil => simp [totalI]
  | cons y r ih => simp only [List.cons_append, totalI, ih]; omega
theorem total_append (xs ys : List (List Int)) : totalI (xs ++ ys) = totalI xs + totalI ys := by
  induction xs with
  | nil => simp [totalI]
  | cons y r ih => simp only [List.cons_append, totalI, ih]; omega
theorem take_snoc (xs : List (List Int)) (i : Nat) (hi : i < xs.length) : xs.take (i + 1) = xs.take i ++ [xs.getD i []] := by
  rw [List.take_succ_eq_append_getElem hi]
  simp [List.getD, List.getElem?_eq_getElem hi]
theorem part_get (a : Int) (xs : List (List Int)) (i : Nat) (hi : i < xs.length) : (part a xs i).getD i [] = xs.getD i [] := by
  unfold part
  have hl : (markII a (xs.take i)).length = i := by rw [markII_len, List.length_take]; omega
  simp only [List.getD]
  rw [List.getElem?_append_right (by omega), hl, Nat.sub_self, List.getElem?_drop]
  rfl
theorem part_set (a : Int) (xs : List (List Int)) (i : Nat) (hi : i < xs.length) : (part a xs i).set i (markI (a + totalI (xs.take i)) (xs.getD i [])) = part a xs (i + 1) := by
  unfold part
  have hl : (markII a (xs.take i)).length = i := by rw [markII_len, List.length_take]; omega
  rw [List.set_append_right _ _ (by omega), hl, Nat.sub_self, take_snoc xs i hi, mark_snoc, List.append_assoc]
  have hd : xs.drop i = xs.getD i [] :: xs.drop (i + 1) := by
    rw [List.drop_eq_getElem_cons hi]
    simp [List.getD, List.getElem?_eq_getElem hi]
  rw [hd]
  rfl
theorem total_take (xs : List (List Int)) (i : Nat) : totalI (xs.take i) ≤ totalI xs := by
  induction xs generalizing i with
  | nil => simp [totalI]
  | cons x r ih =>
    cases i with
    | zero => simp [totalI]
    | succ i => simp only [List.take_succ_cons, totalI]; have := ih i; omega
theorem total_mem {xs : List (List Int)} {x : List Int} (h : x ∈ xs) : x.length ≤ totalI xs := by
  induction xs with
  | nil => cases h
  | cons y r ih =>
    simp only [totalI]
    rcases List.mem_cons.1 h with e | h
    · subst e; omega
    · have := ih h; omega
theorem rdL_mem (xs : List (List Int)) (i : Nat) (h : i < xs.length) : rd_L3 xs (i : Int) ∈ xs := by
  have e : rd_L3 xs (i : Int) = xs[i] := by simp [rd_L3, List.getD, List.getElem?_eq_getElem h]
  rw [e]
  exact List.getElem_mem _
theorem to_ev (l : List (List Int)) (hl : l.length ≤ 11728124029610) (hx : totalI l ≤ 35184372088832) : Ev (fun k => laws_toIntSS.f k l) l := by
  have key : ∀ (d i : Nat) (out : List (List Int)), i + d = l.length → out.length = l.length → out.take i = l.take i → Ev (fun k => laws_toIntSS.l0 k l out i) l := by
    intro d
    induction d with
    | zero =>
      intro i out hd ho ht
      rw [List.take_of_length_le (by omega), List.take_of_length_le (by omega)] at ht
      subst ht
      refine Ev.step (f := fun _ => some out) (fun k => ?_) (Ev.now _)
      simp only [laws_toIntSS.l0]
      rw [if_neg (by omega)]
    | succ d ih =>
      intro i out hd ho ht
      have hm := rdL_mem l i (by omega)
      obtain ⟨K1, g1⟩ := HelpI.to_ev (rd_L3 l (i : Int)) (by have := total_mem hm; omega)
      obtain ⟨K2, g2⟩ := ih (i + 1) (out.set i (rd_L3 l (i : Int))) (by omega) (by simp [ho]) (set_take l out i _ (by omega) ho ht (by simp [rd_L3, List.getD, List.getElem?_eq_getElem (show i < l.length by omega)]))
      refine ⟨K1 + K2 + 1, fun n hn => ?_⟩
      obtain ⟨n, rfl⟩ : ∃ m, n = m + 1 := ⟨n - 1, by omega⟩
      have g1' := g1 n (by omega)
      have g2' := g2 n (by omega)
      simp only at g1' g2'
      simp only [laws_toIntSS.l0]
      rw [if_pos (by omega), if_pos (by omega), g1', Option.bind_some, if_pos (by omega), wrap_succ i (by omega), Int.toNat_natCast, g2']
  refine Ev.congr (fun k => ?_) (key l.length 0 (List.replicate l.length []) (by omega) (by simp) (by simp))
  simp only [laws_toIntSS.f]
  rw [if_pos (by omega), if_pos (by omega), Int.toNat_natCast]
  rfl
theorem eq_ev (xs : List (List Int)) (hl : xs.length ≤ 1099511627776) (ht : totalI xs ≤ 35184372088832) : Ev (fun k => laws_eqIntSS.f k xs xs) true := by
  have key : ∀ (d i : Nat), i + d = xs.length → Ev (fun k => laws_eqIntSS.l0 k xs xs i) true := by
    intro d
    induction d with
    | zero =>
      intro i hd
      refine Ev.step (f := fun _ => some true) (fun k => ?_) (Ev.now _)
      simp only [laws_eqIntSS.l0]
      rw [if_neg (by omega)]
    | succ d ih =>
      intro i hd
      obtain ⟨K1, g1⟩ := HelpI.eq_ev (rd_L3 xs (i : Int)) (by have := total_mem (rdL_mem xs i (by omega)); omega)
      obtain ⟨K2, g2⟩ := ih (i + 1) (by omega)
      refine ⟨K1 + K2 + 1, fun n hn => ?_⟩
      obtain ⟨n, rfl⟩ : ∃ m, n = m + 1 := ⟨n - 1, by omega⟩
      have g1' := g1 n (by omega)
      have g2' := g2 n (by omega)
      simp only at g1' g2'
      simp only [laws_eqIntSS.l0]
      rw [if_pos (by omega), if_pos (by omega), if_pos (by omega), g1', Option.bind_some, if_pos rfl, wrap_succ i (by omega), g2']
  refine Ev.congr (fun k => ?_) (key xs.length 0 (by omega))
  simp only [laws_eqIntSS.f]
  rw [if_pos trivial]
  rfl
theorem held_ev (xs : List (List Int)) (a : Int) (a0 : 0 ≤ a) (a1 : a + totalI xs ≤ 1099511627776) (hl : xs.length ≤ 1099511627776) : Ev (fun k => laws_heldIntSS.f k (markII a xs) a) (a + totalI xs) := by
  have key : ∀ (r : List (List Int)) (p : List (List Int)) (b : Int), 0 ≤ b → b + totalI r ≤ 1099511627776 → p.length + r.length ≤ 1099511627776 → Ev (fun k => laws_heldIntSS.l0 k (p ++ markII b r) b (p.length : Int)) (b + totalI r) := by
    intro r
    induction r with
    | nil =>
      intro p b b0 b1 hp
      have e : (b + ((totalI [] : Nat) : Int)) = b := by simp [totalI]
      rw [e]
      refine Ev.step (f := fun _ => some b) (fun k => ?_) (Ev.now _)
      simp only [laws_heldIntSS.l0]
      rw [if_neg (by simp [markII])]
    | cons x r ih =>
      intro p b b0 b1 hp
      simp only [List.length_cons, totalI] at b1 hp
      obtain ⟨K2, g2⟩ := ih (p ++ [markI b x]) (b + x.length) (by omega) (by omega) (by simp; omega)
      obtain ⟨K1, g1⟩ := HelpI.held_ev x b b0 (by omega)
      refine ⟨K1 + K2 + 1, fun n hn => ?_⟩
      obtain ⟨n, rfl⟩ : ∃ m, n = m + 1 := ⟨n - 1, by omega⟩
      have g1' := g1 n (by omega)
      have g2' := g2 n (by omega)
      simp only at g1' g2'
      simp only [laws_heldIntSS.l0]
      have hg : rd_L3 (p ++ markII b (x :: r)) (p.length : Int) = markI b x := by simp [rd_L3, markII]
      rw [if_pos (by simp [markII]; omega), if_pos (by omega), hg, g1', Option.bind_some, if_neg (by omega), wrap_succ _ (by omega)]
      have e1 : p ++ markII b (x :: r) = p ++ [markI b x] ++ markII (b + x.length) r := by simp [markII]
      have e2 : ((p.length + 1 : Nat) : Int) = (((p ++ [markI b x]).length : Nat) : Int) := by simp
      rw [e1, e2, g2']
      simp only [totalI]
      congr 1
      omega
  have h := key xs [] a a0 a1 (by simp; omega)
  exact Ev.congr (fun k => by simp only [laws_heldIntSS.f]; rfl) h
theorem to_calls (x : List (List Int)) (v : Value) (w : World) (h : tII.K w x v) (hb : bdII x) :
    Calls Try.prog 80 #[v] w fun e w' => ∃ v', e = .returned v' ∧ tII.M w' w.heap.size (fun _ => True) x v' ∧ Grew w w' := by
  obtain ⟨hl, ht⟩ := hb
  obtain ⟨A, c, rfl, hc, hr⟩ := h
  obtain ⟨k, hk⟩ := (to_ev x (by omega) (by omega)).rounds
  exact laws_toIntSS.calls k A c x x w hr hc hk
theorem eq_calls (x : List (List Int)) (v v' : Value) (w : World) (h : tII.K w x v) (h' : tII.K w x v') (hb : bdII x) :
    Calls Try.prog 88 #[v, v'] w fun e w' => e = .returned (.bool true) ∧ Grew w w' := by
  obtain ⟨hl, ht⟩ := hb
  obtain ⟨A, c, rfl, hc, hr⟩ := h
  obtain ⟨A', c', rfl, hc', hr'⟩ := h'
  obtain ⟨k, hk⟩ := (eq_ev x (by omega) (by omega)).rounds
  refine (laws_eqIntSS.calls k A c x A' c' x true w hr hc hr' hc' hk).mono ?_
  rintro e w' ⟨rfl, h2⟩
  exact ⟨rfl, h2.below⟩
set_option maxRecDepth 100000 in
set_option maxHeartbeats 2000000 in
theorem mark_calls (xs : List (List Int)) (v : Value) (ok : Nat → Prop) (a : Int) (w0 w : World) (hB : Below w0.heap.size w0 w) (h : tII.M w w0.heap.size ok xs v) (a0 : 0 ≤ a) (a1 : a + cntII xs ≤ 1099511627776) (hb : bdII xs) :
    Calls Try.prog 89 #[v, .int .i64 a] w fun e w' => e = .returned (.int .i64 (a + cntII xs)) ∧ tII.M w' w0.heap.size ok (markII a xs) v ∧ Below w0.heap.size w0 w' ∧ Kept w w' ok := by
  have h : Kd.S kI 22 w w0.heap.size ok v xs := h
  obtain ⟨hlen, _⟩ := hb
  by_cases hz : xs.length = 0
  · obtain rfl := List.length_eq_zero_iff.1 hz
    obtain ⟨A, c, rfl⟩ := Kd.S_slice h
    have HH := Aside0.mk h
    have HB := Aside0.mk hB
    clear h hB hz hlen
    simp only [List.length_nil]
    go_enter Try.func89, Try.ntmps89
    go_wp2
    go_loopg [1, 5] 0 (fun gg s1 s5 wr => s1 = .int .i64 a ∧ s5 = .int .i64 0 ∧ wr = w)
    case atStart => exact ⟨rfl, rfl, rfl⟩
    case round =>
      obtain ⟨rfl, rfl, rfl⟩ := hrel
      go_wp2
      go_ret
      exact ⟨by simp [totalI], HH.out, HB.out, Kept.refl _ _⟩
  · obtain ⟨g, cap, rfl, _, _, _⟩ := Kd.S_form h (by omega)
    have HH := Aside0.mk h
    have HB0 := Aside0.mk hB
    have HL := Aside0.mk (show a + (totalI xs : Int) ≤ 1099511627776 from a1)
    clear h hB
    go_enter Try.func89, Try.ntmps89
    go_wp2
    go_loopg [1, 5] xs.length (fun gg s1 s5 wr => ∃ i : Nat, i ≤ xs.length ∧ xs.length - i ≤ gg ∧ s1 = .int .i64 (a + totalI (xs.take i)) ∧ s5 = .int .i64 i ∧ Aside0 (Kd.S kI 22 wr w0.heap.size ok (.slice (some ⟨g, 0, none⟩) xs.length cap) (part a xs i)) ∧ Aside0 (Below w0.heap.size w0 wr) ∧ Aside0 (Kept w wr ok))
    case atStart => exact ⟨0, by omega, by omega, by simp [totalI], rfl, ⟨HH.out⟩, ⟨HB0.out⟩, ⟨Kept.refl _ _⟩⟩
    case round =>
      obtain ⟨i, hi, hg, rfl, rfl, HS, HB, HK⟩ := hrel
      by_cases hlt : i < xs.length
      · have hltz : (i : Int) < (xs.length : Int) := by omega
        obtain ⟨oki, c, hcl, hM, hcell, hoki, hH⟩ := Kd.S_lend HS.out [] (i : Int) (by omega) (by omega)
        rw [Int.toNat_natCast, part_get a xs i hlt] at hM
        obtain ⟨u, rfl, hR⟩ := hM
        have hc0 := hcell 0 u rfl
        rw [Int.toNat_natCast] at hc0
        have hc1 : wr.cell? ⟨g, i, none⟩ = some u := by simpa [kI, Kd.slice] using hc0
        have htt := total_take xs (i + 1)
        rw [take_snoc xs i hlt, total_snoc] at htt
        have hcall := HelpI.mark_calls (xs.getD i []) u oki (a + totalI (xs.take i)) w0 wr HB.out hR (by omega) (by have := HL.out; show a + (totalI (xs.take i) : Int) + ((xs.getD i []).length : Int) ≤ _; omega) (by have := HL.out; show (xs.getD i []).length ≤ _; omega)
        have HH2 := Aside0.mk hH
        have HO := Aside0.mk hoki
        clear hcell hc0 hH hoki hR
        generalize hx : xs.getD i [] = x at hcall htt
        have HX := Aside0.mk hx
        clear hx
        go_wp2_with (go_at_call 25; refine hcall.mono ?_; rintro e w' ⟨rfl, hR', hB', hK'⟩)
        go_roundg (xs.length - (i + 1))
        case measure => omega
        case rel =>
          refine ⟨i + 1, by omega, by omega, ?_, by go_num, ⟨?_⟩, ⟨hB'⟩, ⟨HK.out.then_ hK' (fun k hk => .inl (HO.out k hk).1)⟩⟩
          · show Value.int .i64 (a + (totalI (xs.take i) : Int) + (x.length : Int)) = _
            rw [take_snoc xs i hlt, total_snoc, HX.out]
            congr 1
            omega
          · have h1 := Kd.H_back (Kd.H_step HH2.out (fun k hk hn hl => hK'.2 k hl hn)) (x' := markI (a + totalI (xs.take i)) x) ⟨u, rfl, hR'⟩ (fun _ hk => hk)
            rw [Int.toNat_natCast, ← HX.out, part_set a xs i hlt] at h1
            exact h1
      · obtain rfl : i = xs.length := by omega
        go_wp2
        go_ret
        refine ⟨by rw [List.take_length]; rfl, ?_, HB.out, HK.out⟩
        have := HS.out
        unfold part at this
        rw [List.take_length, List.drop_length, List.append_nil] at this
        exact this
theorem held_calls (xs : List (List Int)) (v : Value) (a : Int) (w : World) (h : tII.K w (markII a xs) v) (a0 : 0 ≤ a) (a1 : a + cntII xs ≤ 1099511627776) (hb : bdII xs) :
    Calls Try.prog 99 #[v, .int .i64 a] w fun e w' => e = .returned (.int .i64 (a + cntII xs)) ∧ Grew w w' := by
  obtain ⟨A, c, rfl, hc, hr⟩ := h
  obtain ⟨k, hk⟩ := (held_ev xs a a0 a1 hb.1).rounds
  refine (laws_heldIntSS.calls k A c (markII a xs) a _ w hr hc hk).mono ?_
  rintro e w' ⟨rfl, h2⟩
  exact ⟨rfl, h2.below⟩
end Go.Proofs.Ytmgmdnmfalepkaa.HelpII

namespace Go.Proofs.Ytmgmdnmfalepkaa.Ty
open Go.RowKit Go.Proofs.YtmgmdnmfalepkaaW.PrintWords Go.Proofs.YtmgmdnmfalepkaaW.PrintMore Go.Proofs.Ytmgmdnmfalepkaa.Kit Go.Proofs.Ytmgmdnmfalepkaa.PKit
set_option linter.unusedVariables false
theorem Ty.M_set {α : Type} {T : Ty α} {w : World} {base : Nat} {ok : Nat → Prop} {x : α} {v : Value} (h : T.M w base ok x v) {g j : Nat} (hne : ∀ k, ok k → k = g → False) (u : Value) : T.M (w.setCell ⟨g, j, none⟩ u) base ok x v :=
  T.M_move (fun k hk => Below.heap_setCell w ⟨g, j, none⟩ u k (fun e => hne k hk e)) h
theorem Tys.M_one {α : Type} {a : Ty α} {w : World} {base : Nat} {ok : Nat → Prop} {x : α} {v : Value} (h : a.M w base ok x v) : (Tys.one a).M w base ok x [v] := ⟨v, rfl, h⟩
theorem Tys.cons_apart {α β : Type} {a : Ty α} {b : Tys β} {w : World} {base : Nat} {ok1 ok2 : Nat → Prop} {x : α} {y : β} {v : Value} {r : List Value} (h1 : a.M w base ok1 x v) (h2 : b.M w base ok2 y r) (hd : ∀ k, ok2 k → ok1 k → False) :
    (Tys.cons a b).M w base (fun k => ok1 k ∨ ok2 k) (x, y) (v :: r) :=
  ⟨v, r, ok1, ok2, rfl, fun _ h => .inl h, fun k h => ⟨.inr h, fun h' => hd k h h'⟩, h1, h2⟩
end Go.Proofs.Ytmgmdnmfalepkaa.Ty
namespace Go.Proofs.Ytmgmdnmfalepkaa.HelpBB
open Go.RowKit Go.Proofs.YtmgmdnmfalepkaaW.PrintWords Go.Proofs.Ytmgmdnmfalepkaa.PKit Go.Proofs.Ytmgmdnmfalepkaa.L Go.Proofs.Ytmgmdnmfalepkaa.Ty
end Go.Proofs.Ytmgmdnmfalepkaa.HelpBB
namespace Go.Proofs.Ytmgmdnmfalepkaa.HelpII
open Go.RowKit Go.Proofs.YtmgmdnmfalepkaaW.PrintWords Go.Proofs.Ytmgmdnmfalepkaa.PKit Go.Proofs.Ytmgmdnmfalepkaa.L Go.Proofs.Ytmgmdnmfalepkaa.Ty
end Go.Proofs.Ytmgmdnmfalepkaa.HelpII
namespace Go.Proofs.Ytmgmdnmfalepkaa.HelpI
open Go.RowKit Go.Proofs.YtmgmdnmfalepkaaW.PrintWords Go.Proofs.Ytmgmdnmfalepkaa.PKit Go.Proofs.Ytmgmdnmfalepkaa.L Go.Proofs.Ytmgmdnmfalepkaa.Ty
end Go.Proofs.Ytmgmdnmfalepkaa.HelpI

namespace Go.Proofs.Ytmgmdnmfalepkaa.L
open Go.RowKit Go.Proofs.YtmgmdnmfalepkaaW.PrintWords Go.Proofs.YtmgmdnmfalepkaaW.PrintLast Go.Proofs.YtmgmdnmfalepkaaW.PrintMore
attribute [local go_sem] max2_int min2_int max_two min_two max_three min_three max_four min_four
set_option linter.unusedVariables false
set_option linter.unusedSimpArgs false
end Go.Proofs.Ytmgmdnmfalepkaa.L

namespace Go.Proofs.Ytmgmdnmfalepkaa.HelpSeg
open Go.RowKit Go.Proofs.YtmgmdnmfalepkaaW.PrintWords Go.Proofs.YtmgmdnmfalepkaaW.PrintMore Go.Proofs.Ytmgmdnmfalepkaa.Kit Go.Proofs.Ytmgmdnmfalepkaa.PKit Go.Proofs.Ytmgmdnmfalepkaa.L Go.Proofs.Ytmgmdnmfalepkaa.Ty
set_option linter.unusedVariables false
abbrev X := Int × List (List Int) × List Int × List (List Int)
def tys : Tys X := (Tys.cons (Ty.sc (Value.int .i64)) (Tys.cons HelpBB.tBB (Tys.cons HelpI.tI (Tys.one HelpII.tII))))
abbrev tSeg : Ty X := Ty.agg tys
abbrev cntSeg (x : X) : Nat := HelpBB.cntBB x.2.1 + HelpI.cntI x.2.2.1 + HelpII.cntII x.2.2.2
abbrev bdSeg (x : X) : Prop := HelpBB.bdBB x.2.1 ∧ HelpI.bdI x.2.2.1 ∧ HelpII.bdII x.2.2.2
abbrev smallSeg (x : X) : Prop := (x.2.1.length + HelpBB.totalB x.2.1) + x.2.2.1.length + (x.2.2.2.length + HelpII.totalI x.2.2.2) ≤ 1048576
theorem small_parts {x : X} (h : smallSeg x) : HelpBB.smallBB x.2.1 ∧ HelpI.smallI x.2.2.1 ∧ HelpII.smallII x.2.2.2 := by
  have h' : (x.2.1.length + HelpBB.totalB x.2.1) + x.2.2.1.length + (x.2.2.2.length + HelpII.totalI x.2.2.2) ≤ 1048576 := h
  exact ⟨by show (x.2.1.length + HelpBB.totalB x.2.1) ≤ _; omega, by show x.2.2.1.length ≤ _; omega, by show (x.2.2.2.length + HelpII.totalI x.2.2.2) ≤ _; omega⟩
theorem bd_small {x : X} (h : smallSeg x) : bdSeg x := by
  obtain ⟨s1, s2, s3⟩ := small_parts h
  exact ⟨HelpBB.bd_small s1, HelpI.bd_small s2, HelpII.bd_small s3⟩
theorem cnt_small {x : X} (h : smallSeg x) : cntSeg x ≤ 1048576 := by
  have h' : (x.2.1.length + HelpBB.totalB x.2.1) + x.2.2.1.length + (x.2.2.2.length + HelpII.totalI x.2.2.2) ≤ 1048576 := h
  show HelpBB.totalB x.2.1 + x.2.2.1.length + HelpII.totalI x.2.2.2 ≤ _
  omega
def markSeg (a : Int) (x : X) : X := (x.1, HelpBB.markBB (a) x.2.1, HelpI.markI (a + (HelpBB.cntBB x.2.1 : Int)) x.2.2.1, HelpII.markII (a + (HelpBB.cntBB x.2.1 : Int) + (HelpI.cntI x.2.2.1 : Int)) x.2.2.2)
set_option maxRecDepth 100000 in
set_option maxHeartbeats 4000000 in
theorem to_calls (x : X) (v : Value) (w : World) (h : tSeg.K w x v) (hb : bdSeg x) :
    Calls Try.prog 30 #[v] w fun e w' => ∃ v', e = .returned v' ∧ tSeg.M w' w.heap.size (fun _ => True) x v' ∧ Grew w w' := by
  have huL := Try.underlying44
  have huI := Try.underlying50
  obtain ⟨y0, y1, y2, y3⟩ := x
  obtain ⟨b1, b2, b3⟩ := hb
  have B1 := Aside0.mk b1
  clear b1
  have B2 := Aside0.mk b2
  clear b2
  have B3 := Aside0.mk b3
  clear b3
  obtain ⟨l, rfl, hl⟩ := h
  obtain ⟨u0, r0, rfl, h0, hl0⟩ := hl
  obtain ⟨u1, r1, rfl, h1, hl1⟩ := hl0
  obtain ⟨u2, r2, rfl, h2, hl2⟩ := hl1
  obtain ⟨u3, rfl, h3⟩ := hl2
  have h0 : u0 = .int .i64 y0 := h0
  subst h0
  obtain ⟨A1, c1, rfl, hc1, hr1⟩ := h1
  obtain ⟨A2, c2, rfl, hc2, hr2⟩ := h2
  obtain ⟨A3, c3, rfl, hc3, hr3⟩ := h3
  have K1 := Aside0.mk (show HelpBB.tBB.K w y1 (.slice A1 y1.length c1) from ⟨A1, c1, rfl, hc1, hr1⟩)
  clear hc1 hr1
  have K2 := Aside0.mk (show HelpI.tI.K w y2 (.slice A2 y2.length c2) from ⟨A2, c2, rfl, hc2, hr2⟩)
  clear hc2 hr2
  have K3 := Aside0.mk (show HelpII.tII.K w y3 (.slice A3 y3.length c3) from ⟨A3, c3, rfl, hc3, hr3⟩)
  clear hc3 hr3
  show Calls _ _ #[.agg #[.int .i64 y0, .slice A1 y1.length c1, .slice A2 y2.length c2, .slice A3 y3.length c3]] w _
  have HB := Aside0.mk (Below.refl w.heap.size w)
  go_enter Try.func30, Try.ntmps30
  go_wp2_with (first | ((with_reducible refine gate_dst (N := 1) rfl ?_); refine box_event ?hg (N := 1) ?hd (cs := #[.int .i64 y0, .slice A1 y1.length c1, .slice A2 y2.length c2, .slice A3 y3.length c3]) (t := 44) ?hr ?_; (case hd => rfl); (case hg => rfl); (case hr => first | (go_simp; done) | (go_simp; rfl)); intro g1 hg w1 hbox hb; have GS1 := Aside0.mk (show w.heap.size = g1 from hg.symm); have nb_ := Aside0.mk (below_step HB.out hb); have BK1 := Aside0.mk hbox; have GE1 := Aside0.mk ((by rw [hg]; exact HB.out.size) : w.heap.size ≤ g1); clear HB; have HB := nb_; clear nb_ hb hbox hg) | ((with_reducible refine gate_dst (N := 2) rfl ?_); refine box_event ?hg (N := 2) ?hd (cs := #[.int .i64 0, .slice none 0 0, .slice none 0 0, .slice none 0 0]) (t := 50) ?hr ?_; (case hd => rfl); (case hg => rfl); (case hr => first | (go_simp; done) | (go_simp; rfl)); intro g2 hg w2 hbox hb; have GS2 := Aside0.mk (show w1.heap.size = g2 from hg.symm); have n1_ := Aside0.mk (blk_below (g := g1) (o := .cells #[.int .i64 y0, .slice A1 y1.length c1, .slice A2 y2.length c2, .slice A3 y3.length c3] 44 (0, 0)) BK1.out hb); have nb_ := Aside0.mk (below_step HB.out hb); have BK2 := Aside0.mk hbox; have GE2 := Aside0.mk ((by rw [hg]; exact HB.out.size) : w.heap.size ≤ g2); have NE1_2 := Aside0.mk ((by rw [hg]; exact Nat.ne_of_lt (blk_lt BK1.out)) : g1 ≠ g2); have NE2_1 := Aside0.mk (Ne.symm NE1_2.out); clear BK1; have BK1 := n1_; clear n1_; clear HB; have HB := nb_; clear nb_ hb hbox hg) | ((with_reducible refine gate_dst (N := 3) rfl ?_); refine box_event ?hg (N := 3) ?hd (cs := #[.int .i64 0, .slice none 0 0, .slice none 0 0, .slice none 0 0]) (t := 50) ?hr ?_; (case hd => rfl); (case hg => rfl); (case hr => first | (go_simp; done) | (go_simp; rfl)); intro g3 hg w3 hbox hb; have GS3 := Aside0.mk (show w2.heap.size = g3 from hg.symm); have n1_ := Aside0.mk (blk_below (g := g1) (o := .cells #[.int .i64 y0, .slice A1 y1.length c1, .slice A2 y2.length c2, .slice A3 y3.length c3] 44 (0, 0)) BK1.out hb); have n2_ := Aside0.mk (blk_below (g := g2) (o := .cells #[.int .i64 0, .slice none 0 0, .slice none 0 0, .slice none 0 0] 50 (0, 0)) BK2.out hb); have nb_ := Aside0.mk (below_step HB.out hb); have BK3 := Aside0.mk hbox; have GE3 := Aside0.mk ((by rw [hg]; exact HB.out.size) : w.heap.size ≤ g3); have NE1_3 := Aside0.mk ((by rw [hg]; exact Nat.ne_of_lt (blk_lt BK1.out)) : g1 ≠ g3); have NE3_1 := Aside0.mk (Ne.symm NE1_3.out); clear BK1; have BK1 := n1_; clear n1_; have NE2_3 := Aside0.mk ((by rw [hg]; exact Nat.ne_of_lt (blk_lt BK2.out)) : g2 ≠ g3); have NE3_2 := Aside0.mk (Ne.symm NE2_3.out); clear BK2; have BK2 := n2_; clear n2_; clear HB; have HB := nb_; clear nb_ hb hbox hg; have hn31 := NE3_1.out; have hn13 := NE1_3.out; have hn21 := NE2_1.out; have hn12 := NE1_2.out; have hn32 := NE3_2.out; have hn23 := NE2_3.out; have hczw3_1_0 : w3.cell? ⟨g1, 0, none⟩ = some (.int .i64 y0) := (blk_cell BK1.out 0).trans rfl; have hfzw3_1_0 := blk_frozen (w := w3) BK1.out 0; have hczw3_1_1 : w3.cell? ⟨g1, 1, none⟩ = some (.slice A1 y1.length c1) := (blk_cell BK1.out 1).trans rfl; have hfzw3_1_1 := blk_frozen (w := w3) BK1.out 1; have hczw3_1_2 : w3.cell? ⟨g1, 2, none⟩ = some (.slice A2 y2.length c2) := (blk_cell BK1.out 2).trans rfl; have hfzw3_1_2 := blk_frozen (w := w3) BK1.out 2; have hczw3_1_3 : w3.cell? ⟨g1, 3, none⟩ = some (.slice A3 y3.length c3) := (blk_cell BK1.out 3).trans rfl; have hfzw3_1_3 := blk_frozen (w := w3) BK1.out 3; have hczw3_3_0 : w3.cell? ⟨g3, 0, none⟩ = some (.int .i64 0) := (blk_cell BK3.out 0).trans rfl; have hfzw3_3_0 := blk_frozen (w := w3) BK3.out 0; have hczw3_3_1 : w3.cell? ⟨g3, 1, none⟩ = some (.slice none 0 0) := (blk_cell BK3.out 1).trans rfl; have hfzw3_3_1 := blk_frozen (w := w3) BK3.out 1; have hczw3_3_2 : w3.cell? ⟨g3, 2, none⟩ = some (.slice none 0 0) := (blk_cell BK3.out 2).trans rfl; have hfzw3_3_2 := blk_frozen (w := w3) BK3.out 2; have hczw3_3_3 : w3.cell? ⟨g3, 3, none⟩ = some (.slice none 0 0) := (blk_cell BK3.out 3).trans rfl; have hfzw3_3_3 := blk_frozen (w := w3) BK3.out 3; have hczw3_2_0 : w3.cell? ⟨g2, 0, none⟩ = some (.int .i64 0) := (blk_cell BK2.out 0).trans rfl; have hfzw3_2_0 := blk_frozen (w := w3) BK2.out 0; have hczw3_2_1 : w3.cell? ⟨g2, 1, none⟩ = some (.slice none 0 0) := (blk_cell BK2.out 1).trans rfl; have hfzw3_2_1 := blk_frozen (w := w3) BK2.out 1; have hczw3_2_2 : w3.cell? ⟨g2, 2, none⟩ = some (.slice none 0 0) := (blk_cell BK2.out 2).trans rfl; have hfzw3_2_2 := blk_frozen (w := w3) BK2.out 2; have hczw3_2_3 : w3.cell? ⟨g2, 3, none⟩ = some (.slice none 0 0) := (blk_cell BK2.out 3).trans rfl; have hfzw3_2_3 := blk_frozen (w := w3) BK2.out 3) | (go_at_call 39; refine (HelpBB.to_calls y1 (.slice A1 y1.length c1) _ ?sa B1.out).mono ?_; (case sa => exact HelpBB.tBB.K_below (by repeat (first | (with_reducible first | exact HB.out | apply below_alloc | apply pw_below_drewN | apply below_drew1 | refine below_set ?_ GE1.out | refine below_set ?_ GE2.out | refine below_set ?_ GE3.out) | exact HB.out)) K1.out); rintro e w4 ⟨v1, rfl, hm, hg⟩; have hq : w3.heap.size ≤ w4.heap.size := (by have h1 := hg.size; simpa [World.setCell] using h1); have n1_ := Aside0.mk (blk_below (g := g1) (o := .cells #[.int .i64 y0, .slice A1 y1.length c1, .slice A2 y2.length c2, .slice A3 y3.length c3] 44 (0, 0)) (by (with_reducible repeat (first | refine blk_drewN ?_ _ | refine blk_drew ?_ | refine blk_alloc ?_ _)); refine blk_far ?_ NE1_3.out _; (with_reducible repeat (first | refine blk_drewN ?_ _ | refine blk_drew ?_ | refine blk_alloc ?_ _)); exact BK1.out) hg); have n2_ := Aside0.mk (blk_below (g := g2) (o := .cells #[.int .i64 0, .slice none 0 0, .slice none 0 0, .slice none 0 0] 50 (0, 0)) (by (with_reducible repeat (first | refine blk_drewN ?_ _ | refine blk_drew ?_ | refine blk_alloc ?_ _)); refine blk_far ?_ NE2_3.out _; (with_reducible repeat (first | refine blk_drewN ?_ _ | refine blk_drew ?_ | refine blk_alloc ?_ _)); exact BK2.out) hg); have n3_ := Aside0.mk (blk_below (g := g3) (o := .cells #[.int .i64 y0, .slice none 0 0, .slice none 0 0, .slice none 0 0] 50 (0, 0)) (by (with_reducible repeat (first | refine blk_drewN ?_ _ | refine blk_drew ?_ | refine blk_alloc ?_ _)); refine blk_put (cs := #[.int .i64 0, .slice none 0 0, .slice none 0 0, .slice none 0 0]) ?_ 0 _ rfl; (with_reducible repeat (first | refine blk_drewN ?_ _ | refine blk_drew ?_ | refine blk_alloc ?_ _)); exact BK3.out) hg); have M1 := Aside0.mk (show HelpBB.tBB.M w4 w.heap.size (fun k => w3.heap.size ≤ k ∧ k < w4.heap.size) y1 v1 from HelpBB.tBB.M_mono (fun k hk => ⟨by have h1 := hk.1; simpa [World.setCell] using h1, hk.2⟩) (HelpBB.tBB.M_lower (below_size (by repeat (first | (with_reducible first | exact HB.out | apply below_alloc | apply pw_below_drewN | apply below_drew1 | refine below_set ?_ GE1.out | refine below_set ?_ GE2.out | refine below_set ?_ GE3.out) | exact HB.out))) (Ty.M_beyond hm))); have L3_1 := Aside0.mk (show g3 < w3.heap.size from blk_lt BK3.out); have L2_1 := Aside0.mk (show g2 < w3.heap.size from blk_lt BK2.out); have Q1 := Aside0.mk hq; have nb_ := Aside0.mk (below_step (by repeat (first | (with_reducible first | exact HB.out | apply below_alloc | apply pw_below_drewN | apply below_drew1 | refine below_set ?_ GE1.out | refine below_set ?_ GE2.out | refine below_set ?_ GE3.out) | exact HB.out)) hg); clear BK1 BK2 BK3 HB; have BK1 := n1_; have BK2 := n2_; have BK3 := n3_; have HB := nb_; clear n1_ n2_ n3_ nb_ hg hm hq; obtain ⟨A1t, c1t, e1, _, _⟩ := HelpBB.tBB.K_of_M M1.out; subst e1; have hczw4_1_0 : w4.cell? ⟨g1, 0, none⟩ = some (.int .i64 y0) := (blk_cell BK1.out 0).trans rfl; have hfzw4_1_0 := blk_frozen (w := w4) BK1.out 0; have hczw4_1_1 : w4.cell? ⟨g1, 1, none⟩ = some (.slice A1 y1.length c1) := (blk_cell BK1.out 1).trans rfl; have hfzw4_1_1 := blk_frozen (w := w4) BK1.out 1; have hczw4_1_2 : w4.cell? ⟨g1, 2, none⟩ = some (.slice A2 y2.length c2) := (blk_cell BK1.out 2).trans rfl; have hfzw4_1_2 := blk_frozen (w := w4) BK1.out 2; have hczw4_1_3 : w4.cell? ⟨g1, 3, none⟩ = some (.slice A3 y3.length c3) := (blk_cell BK1.out 3).trans rfl; have hfzw4_1_3 := blk_frozen (w := w4) BK1.out 3; have hczw4_3_0 : w4.cell? ⟨g3, 0, none⟩ = some (.int .i64 y0) := (blk_cell BK3.out 0).trans rfl; have hfzw4_3_0 := blk_frozen (w := w4) BK3.out 0; have hczw4_3_1 : w4.cell? ⟨g3, 1, none⟩ = some (.slice none 0 0) := (blk_cell BK3.out 1).trans rfl; have hfzw4_3_1 := blk_frozen (w := w4) BK3.out 1; have hczw4_3_2 : w4.cell? ⟨g3, 2, none⟩ = some (.slice none 0 0) := (blk_cell BK3.out 2).trans rfl; have hfzw4_3_2 := blk_frozen (w := w4) BK3.out 2; have hczw4_3_3 : w4.cell? ⟨g3, 3, none⟩ = some (.slice none 0 0) := (blk_cell BK3.out 3).trans rfl; have hfzw4_3_3 := blk_frozen (w := w4) BK3.out 3; have hczw4_2_0 : w4.cell? ⟨g2, 0, none⟩ = some (.int .i64 0) := (blk_cell BK2.out 0).trans rfl; have hfzw4_2_0 := blk_frozen (w := w4) BK2.out 0; have hczw4_2_1 : w4.cell? ⟨g2, 1, none⟩ = some (.slice none 0 0) := (blk_cell BK2.out 1).trans rfl; have hfzw4_2_1 := blk_frozen (w := w4) BK2.out 1; have hczw4_2_2 : w4.cell? ⟨g2, 2, none⟩ = some (.slice none 0 0) := (blk_cell BK2.out 2).trans rfl; have hfzw4_2_2 := blk_frozen (w := w4) BK2.out 2; have hczw4_2_3 : w4.cell? ⟨g2, 3, none⟩ = some (.slice none 0 0) := (blk_cell BK2.out 3).trans rfl; have hfzw4_2_3 := blk_frozen (w := w4) BK2.out 3) | (go_at_call 65; refine (HelpI.to_calls y2 (.slice A2 y2.length c2) _ ?sa B2.out).mono ?_; (case sa => exact HelpI.tI.K_below (by repeat (first | (with_reducible first | exact HB.out | apply below_alloc | apply pw_below_drewN | apply below_drew1 | refine below_set ?_ GE1.out | refine below_set ?_ GE2.out | refine below_set ?_ GE3.out) | exact HB.out)) K2.out); rintro e w5 ⟨v2, rfl, hm, hg⟩; have hq : w4.heap.size ≤ w5.heap.size := (by have h1 := hg.size; simpa [World.setCell] using h1); have n1_ := Aside0.mk (blk_below (g := g1) (o := .cells #[.int .i64 y0, .slice A1 y1.length c1, .slice A2 y2.length c2, .slice A3 y3.length c3] 44 (0, 0)) (by (with_reducible repeat (first | refine blk_drewN ?_ _ | refine blk_drew ?_ | refine blk_alloc ?_ _)); refine blk_far ?_ NE1_3.out _; (with_reducible repeat (first | refine blk_drewN ?_ _ | refine blk_drew ?_ | refine blk_alloc ?_ _)); exact BK1.out) hg); have n2_ := Aside0.mk (blk_below (g := g2) (o := .cells #[.int .i64 0, .slice none 0 0, .slice none 0 0, .slice none 0 0] 50 (0, 0)) (by (with_reducible repeat (first | refine blk_drewN ?_ _ | refine blk_drew ?_ | refine blk_alloc ?_ _)); refine blk_far ?_ NE2_3.out _; (with_reducible repeat (first | refine blk_drewN ?_ _ | refine blk_drew ?_ | refine blk_alloc ?_ _)); exact BK2.out) hg); have n3_ := Aside0.mk (blk_below (g := g3) (o := .cells #[.int .i64 y0, .slice A1t y1.length c1t, .slice none 0 0, .slice none 0 0] 50 (0, 0)) (by (with_reducible repeat (first | refine blk_drewN ?_ _ | refine blk_drew ?_ | refine blk_alloc ?_ _)); refine blk_put (cs := #[.int .i64 y0, .slice none 0 0, .slice none 0 0, .slice none 0 0]) ?_ 1 _ rfl; (with_reducible repeat (first | refine blk_drewN ?_ _ | refine blk_drew ?_ | refine blk_alloc ?_ _)); exact BK3.out) hg); have m1_ := Aside0.mk (Ty.M_below (Ty.M_set M1.out (fun k hk e => by have h1 := hk.1; have h2 := L3_1.out; omega) _) hg); have M2 := Aside0.mk (show HelpI.tI.M w5 w.heap.size (fun k => w4.heap.size ≤ k ∧ k < w5.heap.size) y2 v2 from HelpI.tI.M_mono (fun k hk => ⟨by have h1 := hk.1; simpa [World.setCell] using h1, hk.2⟩) (HelpI.tI.M_lower (below_size (by repeat (first | (with_reducible first | exact HB.out | apply below_alloc | apply pw_below_drewN | apply below_drew1 | refine below_set ?_ GE1.out | refine below_set ?_ GE2.out | refine below_set ?_ GE3.out) | exact HB.out))) (Ty.M_beyond hm))); have L3_2 := Aside0.mk (show g3 < w4.heap.size from blk_lt BK3.out); have L2_2 := Aside0.mk (show g2 < w4.heap.size from blk_lt BK2.out); have Q2 := Aside0.mk hq; have nb_ := Aside0.mk (below_step (by repeat (first | (with_reducible first | exact HB.out | apply below_alloc | apply pw_below_drewN | apply below_drew1 | refine below_set ?_ GE1.out | refine below_set ?_ GE2.out | refine below_set ?_ GE3.out) | exact HB.out)) hg); clear BK1 BK2 BK3 HB; have BK1 := n1_; have BK2 := n2_; have BK3 := n3_; have HB := nb_; clear n1_ n2_ n3_ nb_ hg hm hq; clear M1; have M1 := m1_; clear m1_; obtain ⟨A2t, c2t, e2, _, _⟩ := HelpI.tI.K_of_M M2.out; subst e2; have hczw5_1_0 : w5.cell? ⟨g1, 0, none⟩ = some (.int .i64 y0) := (blk_cell BK1.out 0).trans rfl; have hfzw5_1_0 := blk_frozen (w := w5) BK1.out 0; have hczw5_1_1 : w5.cell? ⟨g1, 1, none⟩ = some (.slice A1 y1.length c1) := (blk_cell BK1.out 1).trans rfl; have hfzw5_1_1 := blk_frozen (w := w5) BK1.out 1; have hczw5_1_2 : w5.cell? ⟨g1, 2, none⟩ = some (.slice A2 y2.length c2) := (blk_cell BK1.out 2).trans rfl; have hfzw5_1_2 := blk_frozen (w := w5) BK1.out 2; have hczw5_1_3 : w5.cell? ⟨g1, 3, none⟩ = some (.slice A3 y3.length c3) := (blk_cell BK1.out 3).trans rfl; have hfzw5_1_3 := blk_frozen (w := w5) BK1.out 3; have hczw5_3_0 : w5.cell? ⟨g3, 0, none⟩ = some (.int .i64 y0) := (blk_cell BK3.out 0).trans rfl; have hfzw5_3_0 := blk_frozen (w := w5) BK3.out 0; have hczw5_3_1 : w5.cell? ⟨g3, 1, none⟩ = some (.slice A1t y1.length c1t) := (blk_cell BK3.out 1).trans rfl; have hfzw5_3_1 := blk_frozen (w := w5) BK3.out 1; have hczw5_3_2 : w5.cell? ⟨g3, 2, none⟩ = some (.slice none 0 0) := (blk_cell BK3.out 2).trans rfl; have hfzw5_3_2 := blk_frozen (w := w5) BK3.out 2; have hczw5_3_3 : w5.cell? ⟨g3, 3, none⟩ = some (.slice none 0 0) := (blk_cell BK3.out 3).trans rfl; have hfzw5_3_3 := blk_frozen (w := w5) BK3.out 3; have hczw5_2_0 : w5.cell? ⟨g2, 0, none⟩ = some (.int .i64 0) := (blk_cell BK2.out 0).trans rfl; have hfzw5_2_0 := blk_frozen (w := w5) BK2.out 0; have hczw5_2_1 : w5.cell? ⟨g2, 1, none⟩ = some (.slice none 0 0) := (blk_cell BK2.out 1).trans rfl; have hfzw5_2_1 := blk_frozen (w := w5) BK2.out 1; have hczw5_2_2 : w5.cell? ⟨g2, 2, none⟩ = some (.slice none 0 0) := (blk_cell BK2.out 2).trans rfl; have hfzw5_2_2 := blk_frozen (w := w5) BK2.out 2; have hczw5_2_3 : w5.cell? ⟨g2, 3, none⟩ = some (.slice none 0 0) := (blk_cell BK2.out 3).trans rfl; have hfzw5_2_3 := blk_frozen (w := w5) BK2.out 3) | (go_at_call 80; refine (HelpII.to_calls y3 (.slice A3 y3.length c3) _ ?sa B3.out).mono ?_; (case sa => exact HelpII.tII.K_below (by repeat (first | (with_reducible first | exact HB.out | apply below_alloc | apply pw_below_drewN | apply below_drew1 | refine below_set ?_ GE1.out | refine below_set ?_ GE2.out | refine below_set ?_ GE3.out) | exact HB.out)) K3.out); rintro e w6 ⟨v3, rfl, hm, hg⟩; have hq : w5.heap.size ≤ w6.heap.size := (by have h1 := hg.size; simpa [World.setCell] using h1); have n1_ := Aside0.mk (blk_below (g := g1) (o := .cells #[.int .i64 y0, .slice A1 y1.length c1, .slice A2 y2.length c2, .slice A3 y3.length c3] 44 (0, 0)) (by (with_reducible repeat (first | refine blk_drewN ?_ _ | refine blk_drew ?_ | refine blk_alloc ?_ _)); refine blk_far ?_ NE1_3.out _; (with_reducible repeat (first | refine blk_drewN ?_ _ | refine blk_drew ?_ | refine blk_alloc ?_ _)); exact BK1.out) hg); have n2_ := Aside0.mk (blk_below (g := g2) (o := .cells #[.int .i64 0, .slice none 0 0, .slice none 0 0, .slice none 0 0] 50 (0, 0)) (by (with_reducible repeat (first | refine blk_drewN ?_ _ | refine blk_drew ?_ | refine blk_alloc ?_ _)); refine blk_far ?_ NE2_3.out _; (with_reducible repeat (first | refine blk_drewN ?_ _ | refine blk_drew ?_ | refine blk_alloc ?_ _)); exact BK2.out) hg); have n3_ := Aside0.mk (blk_below (g := g3) (o := .cells #[.int .i64 y0, .slice A1t y1.length c1t, .slice A2t y2.length c2t, .slice none 0 0] 50 (0, 0)) (by (with_reducible repeat (first | refine blk_drewN ?_ _ | refine blk_drew ?_ | refine blk_alloc ?_ _)); refine blk_put (cs := #[.int .i64 y0, .slice A1t y1.length c1t, .slice none 0 0, .slice none 0 0]) ?_ 2 _ rfl; (with_reducible repeat (first | refine blk_drewN ?_ _ | refine blk_drew ?_ | refine blk_alloc ?_ _)); exact BK3.out) hg); have m1_ := Aside0.mk (Ty.M_below (Ty.M_set M1.out (fun k hk e => by have h1 := hk.1; have h2 := L3_1.out; omega) _) hg); have m2_ := Aside0.mk (Ty.M_below (Ty.M_set M2.out (fun k hk e => by have h1 := hk.1; have h2 := L3_2.out; omega) _) hg); have M3 := Aside0.mk (show HelpII.tII.M w6 w.heap.size (fun k => w5.heap.size ≤ k ∧ k < w6.heap.size) y3 v3 from HelpII.tII.M_mono (fun k hk => ⟨by have h1 := hk.1; simpa [World.setCell] using h1, hk.2⟩) (HelpII.tII.M_lower (below_size (by repeat (first | (with_reducible first | exact HB.out | apply below_alloc | apply pw_below_drewN | apply below_drew1 | refine below_set ?_ GE1.out | refine below_set ?_ GE2.out | refine below_set ?_ GE3.out) | exact HB.out))) (Ty.M_beyond hm))); have L3_3 := Aside0.mk (show g3 < w5.heap.size from blk_lt BK3.out); have L2_3 := Aside0.mk (show g2 < w5.heap.size from blk_lt BK2.out); have Q3 := Aside0.mk hq; have nb_ := Aside0.mk (below_step (by repeat (first | (with_reducible first | exact HB.out | apply below_alloc | apply pw_below_drewN | apply below_drew1 | refine below_set ?_ GE1.out | refine below_set ?_ GE2.out | refine below_set ?_ GE3.out) | exact HB.out)) hg); clear BK1 BK2 BK3 HB; have BK1 := n1_; have BK2 := n2_; have BK3 := n3_; have HB := nb_; clear n1_ n2_ n3_ nb_ hg hm hq; clear M1; have M1 := m1_; clear m1_; clear M2; have M2 := m2_; clear m2_; obtain ⟨A3t, c3t, e3, _, _⟩ := HelpII.tII.K_of_M M3.out; subst e3; have hczw6_1_0 : w6.cell? ⟨g1, 0, none⟩ = some (.int .i64 y0) := (blk_cell BK1.out 0).trans rfl; have hfzw6_1_0 := blk_frozen (w := w6) BK1.out 0; have hczw6_1_1 : w6.cell? ⟨g1, 1, none⟩ = some (.slice A1 y1.length c1) := (blk_cell BK1.out 1).trans rfl; have hfzw6_1_1 := blk_frozen (w := w6) BK1.out 1; have hczw6_1_2 : w6.cell? ⟨g1, 2, none⟩ = some (.slice A2 y2.length c2) := (blk_cell BK1.out 2).trans rfl; have hfzw6_1_2 := blk_frozen (w := w6) BK1.out 2; have hczw6_1_3 : w6.cell? ⟨g1, 3, none⟩ = some (.slice A3 y3.length c3) := (blk_cell BK1.out 3).trans rfl; have hfzw6_1_3 := blk_frozen (w := w6) BK1.out 3; have hczw6_3_0 : w6.cell? ⟨g3, 0, none⟩ = some (.int .i64 y0) := (blk_cell BK3.out 0).trans rfl; have hfzw6_3_0 := blk_frozen (w := w6) BK3.out 0; have hczw6_3_1 : w6.cell? ⟨g3, 1, none⟩ = some (.slice A1t y1.length c1t) := (blk_cell BK3.out 1).trans rfl; have hfzw6_3_1 := blk_frozen (w := w6) BK3.out 1; have hczw6_3_2 : w6.cell? ⟨g3, 2, none⟩ = some (.slice A2t y2.length c2t) := (blk_cell BK3.out 2).trans rfl; have hfzw6_3_2 := blk_frozen (w := w6) BK3.out 2; have hczw6_3_3 : w6.cell? ⟨g3, 3, none⟩ = some (.slice none 0 0) := (blk_cell BK3.out 3).trans rfl; have hfzw6_3_3 := blk_frozen (w := w6) BK3.out 3; have hczw6_2_0 : w6.cell? ⟨g2, 0, none⟩ = some (.int .i64 0) := (blk_cell BK2.out 0).trans rfl; have hfzw6_2_0 := blk_frozen (w := w6) BK2.out 0; have hczw6_2_1 : w6.cell? ⟨g2, 1, none⟩ = some (.slice none 0 0) := (blk_cell BK2.out 1).trans rfl; have hfzw6_2_1 := blk_frozen (w := w6) BK2.out 1; have hczw6_2_2 : w6.cell? ⟨g2, 2, none⟩ = some (.slice none 0 0) := (blk_cell BK2.out 2).trans rfl; have hfzw6_2_2 := blk_frozen (w := w6) BK2.out 2; have hczw6_2_3 : w6.cell? ⟨g2, 3, none⟩ = some (.slice none 0 0) := (blk_cell BK2.out 3).trans rfl; have hfzw6_2_3 := blk_frozen (w := w6) BK2.out 3))
  refine bodyPost_ret (results_cell_row rfl _ _ g2 50 #[.int .i64 y0, .slice A1t y1.length c1t, .slice A2t y2.length c2t, .slice A3t y3.length c3t] (0, 0) _ rfl (by (with_reducible repeat (first | refine blk_drewN ?_ _ | refine blk_drew ?_ | refine blk_alloc ?_ _)); refine blk_put (cs := #[.int .i64 y0, .slice A1t y1.length c1t, .slice A2t y2.length c2t, .slice none 0 0]) ?_ 3 _ rfl; (with_reducible repeat (first | refine blk_drewN ?_ _ | refine blk_drew ?_ | refine blk_alloc ?_ _)); refine blk_put (cs := #[.int .i64 y0, .slice A1t y1.length c1t, .slice none 0 0, .slice none 0 0]) ?_ 2 _ rfl; (with_reducible repeat (first | refine blk_drewN ?_ _ | refine blk_drew ?_ | refine blk_alloc ?_ _)); refine blk_put (cs := #[.int .i64 y0, .slice none 0 0, .slice none 0 0, .slice none 0 0]) ?_ 1 _ rfl; (with_reducible repeat (first | refine blk_drewN ?_ _ | refine blk_drew ?_ | refine blk_alloc ?_ _)); refine blk_put (cs := #[.int .i64 0, .slice none 0 0, .slice none 0 0, .slice none 0 0]) ?_ 0 _ rfl; (with_reducible repeat (first | refine blk_drewN ?_ _ | refine blk_drew ?_ | refine blk_alloc ?_ _)); refine blk_far ?_ NE2_3.out _; (with_reducible repeat (first | refine blk_drewN ?_ _ | refine blk_drew ?_ | refine blk_alloc ?_ _)); exact BK2.out) Try.underlying50 rfl (by kernel_rfl)) rfl ?_
  refine ⟨_, rfl, ⟨[.int .i64 y0, .slice A1t y1.length c1t, .slice A2t y2.length c2t, .slice A3t y3.length c3t], rfl, tys.M_mono (fun _ _ => trivial) (Tys.cons_apart (a := (Ty.sc (Value.int .i64))) (ok1 := fun _ => False) rfl (Tys.cons_apart (Ty.M_set (Ty.M_set (Ty.M_set (Ty.M_set (Ty.M_set M1.out (fun k hk e => by have h1 := hk.1; have h2 := L3_1.out; omega) _) (fun k hk e => by have h1 := hk.1; have h2 := L2_1.out; omega) _) (fun k hk e => by have h1 := hk.1; have h2 := L2_1.out; omega) _) (fun k hk e => by have h1 := hk.1; have h2 := L2_1.out; omega) _) (fun k hk e => by have h1 := hk.1; have h2 := L2_1.out; omega) _) (Tys.cons_apart (Ty.M_set (Ty.M_set (Ty.M_set (Ty.M_set (Ty.M_set M2.out (fun k hk e => by have h1 := hk.1; have h2 := L3_2.out; omega) _) (fun k hk e => by have h1 := hk.1; have h2 := L2_2.out; omega) _) (fun k hk e => by have h1 := hk.1; have h2 := L2_2.out; omega) _) (fun k hk e => by have h1 := hk.1; have h2 := L2_2.out; omega) _) (fun k hk e => by have h1 := hk.1; have h2 := L2_2.out; omega) _) (Tys.M_one (Ty.M_set (Ty.M_set (Ty.M_set (Ty.M_set (Ty.M_set M3.out (fun k hk e => by have h1 := hk.1; have h2 := L3_3.out; omega) _) (fun k hk e => by have h1 := hk.1; have h2 := L2_3.out; omega) _) (fun k hk e => by have h1 := hk.1; have h2 := L2_3.out; omega) _) (fun k hk e => by have h1 := hk.1; have h2 := L2_3.out; omega) _) (fun k hk e => by have h1 := hk.1; have h2 := L2_3.out; omega) _)) (fun k hk hk1 => by have q1 := Q1.out; have q2 := Q2.out; have q3 := Q3.out; (rcases hk with hk); (all_goals (first | exact hk.elim | (have h1 := hk.1; have h2 := hk.2; have h3 := hk1.1; have h4 := hk1.2; omega))))) (fun k hk hk1 => by have q1 := Q1.out; have q2 := Q2.out; have q3 := Q3.out; (rcases hk with hk | hk); (all_goals (first | exact hk.elim | (have h1 := hk.1; have h2 := hk.2; have h3 := hk1.1; have h4 := hk1.2; omega))))) (fun _ _ h => h))⟩, by repeat (first | (with_reducible first | exact HB.out | apply below_alloc | apply pw_below_drewN | apply below_drew1 | refine below_set ?_ GE1.out | refine below_set ?_ GE2.out | refine below_set ?_ GE3.out) | exact HB.out)⟩
set_option maxRecDepth 100000 in
set_option maxHeartbeats 4000000 in
theorem eq_calls (x : X) (v v' : Value) (w : World) (h : tSeg.K w x v) (h' : tSeg.K w x v') (hb : bdSeg x) :
    Calls Try.prog 33 #[v, v'] w fun e w' => e = .returned (.bool true) ∧ Grew w w' := by
  have huI := Try.underlying50
  obtain ⟨y0, y1, y2, y3⟩ := x
  obtain ⟨b1, b2, b3⟩ := hb
  have B1 := Aside0.mk b1
  clear b1
  have B2 := Aside0.mk b2
  clear b2
  have B3 := Aside0.mk b3
  clear b3
  obtain ⟨l, rfl, hl⟩ := h
  obtain ⟨u0, r0, rfl, h0, hl0⟩ := hl
  obtain ⟨u1, r1, rfl, h1, hl1⟩ := hl0
  obtain ⟨u2, r2, rfl, h2, hl2⟩ := hl1
  obtain ⟨u3, rfl, h3⟩ := hl2
  have h0 : u0 = .int .i64 y0 := h0
  subst h0
  obtain ⟨A1, c1, rfl, hc1, hr1⟩ := h1
  obtain ⟨A2, c2, rfl, hc2, hr2⟩ := h2
  obtain ⟨A3, c3, rfl, hc3, hr3⟩ := h3
  obtain ⟨lq, rfl, hlq⟩ := h'
  obtain ⟨u0q, r0q, rfl, h0q, hl0q⟩ := hlq
  obtain ⟨u1q, r1q, rfl, h1q, hl1q⟩ := hl0q
  obtain ⟨u2q, r2q, rfl, h2q, hl2q⟩ := hl1q
  obtain ⟨u3q, rfl, h3q⟩ := hl2q
  have h0q : u0q = .int .i64 y0 := h0q
  subst h0q
  obtain ⟨A1q, c1q, rfl, hc1q, hr1q⟩ := h1q
  obtain ⟨A2q, c2q, rfl, hc2q, hr2q⟩ := h2q
  obtain ⟨A3q, c3q, rfl, hc3q, hr3q⟩ := h3q
  have K1 := Aside0.mk (show HelpBB.tBB.K w y1 (.slice A1 y1.length c1) from ⟨A1, c1, rfl, hc1, hr1⟩)
  clear hc1 hr1
  have K2 := Aside0.mk (show HelpI.tI.K w y2 (.slice A2 y2.length c2) from ⟨A2, c2, rfl, hc2, hr2⟩)
  clear hc2 hr2
  have K3 := Aside0.mk (show HelpII.tII.K w y3 (.slice A3 y3.length c3) from ⟨A3, c3, rfl, hc3, hr3⟩)
  clear hc3 hr3
  have K1q := Aside0.mk (show HelpBB.tBB.K w y1 (.slice A1q y1.length c1q) from ⟨A1q, c1q, rfl, hc1q, hr1q⟩)
  clear hc1q hr1q
  have K2q := Aside0.mk (show HelpI.tI.K w y2 (.slice A2q y2.length c2q) from ⟨A2q, c2q, rfl, hc2q, hr2q⟩)
  clear hc2q hr2q
  have K3q := Aside0.mk (show HelpII.tII.K w y3 (.slice A3q y3.length c3q) from ⟨A3q, c3q, rfl, hc3q, hr3q⟩)
  clear hc3q hr3q
  show Calls _ _ #[.agg #[.int .i64 y0, .slice A1 y1.length c1, .slice A2 y2.length c2, .slice A3 y3.length c3], .agg #[.int .i64 y0, .slice A1q y1.length c1q, .slice A2q y2.length c2q, .slice A3q y3.length c3q]] w _
  have HB := Aside0.mk (Below.refl w.heap.size w)
  go_enter Try.func33, Try.ntmps33
  go_wp2_with (first | ((with_reducible refine gate_dst (N := 2) rfl ?_); refine box_event ?hg (N := 2) ?hd (cs := #[.int .i64 y0, .slice A1 y1.length c1, .slice A2 y2.length c2, .slice A3 y3.length c3]) (t := 50) ?hr ?_; (case hd => rfl); (case hg => rfl); (case hr => first | (go_simp; done) | (go_simp; rfl)); intro g1 hg w1 hbox hb; have GS1 := Aside0.mk (show w.heap.size = g1 from hg.symm); have nb_ := Aside0.mk (below_step HB.out hb); have BK1 := Aside0.mk hbox; have GE1 := Aside0.mk ((by rw [hg]; exact HB.out.size) : w.heap.size ≤ g1); clear HB; have HB := nb_; clear nb_ hb hbox hg) | ((with_reducible refine gate_dst (N := 3) rfl ?_); refine box_event ?hg (N := 3) ?hd (cs := #[.int .i64 y0, .slice A1q y1.length c1q, .slice A2q y2.length c2q, .slice A3q y3.length c3q]) (t := 50) ?hr ?_; (case hd => rfl); (case hg => rfl); (case hr => first | (go_simp; done) | (go_simp; rfl)); intro g2 hg w2 hbox hb; have GS2 := Aside0.mk (show w1.heap.size = g2 from hg.symm); have n1_ := Aside0.mk (blk_below (g := g1) (o := .cells #[.int .i64 y0, .slice A1 y1.length c1, .slice A2 y2.length c2, .slice A3 y3.length c3] 50 (0, 0)) BK1.out hb); have nb_ := Aside0.mk (below_step HB.out hb); have BK2 := Aside0.mk hbox; have GE2 := Aside0.mk ((by rw [hg]; exact HB.out.size) : w.heap.size ≤ g2); have NE1_2 := Aside0.mk ((by rw [hg]; exact Nat.ne_of_lt (blk_lt BK1.out)) : g1 ≠ g2); have NE2_1 := Aside0.mk (Ne.symm NE1_2.out); clear BK1; have BK1 := n1_; clear n1_; clear HB; have HB := nb_; clear nb_ hb hbox hg; have hczw2_1_0 : w2.cell? ⟨g1, 0, none⟩ = some (.int .i64 y0) := (blk_cell BK1.out 0).trans rfl; have hfzw2_1_0 := blk_frozen (w := w2) BK1.out 0; have hczw2_1_1 : w2.cell? ⟨g1, 1, none⟩ = some (.slice A1 y1.length c1) := (blk_cell BK1.out 1).trans rfl; have hfzw2_1_1 := blk_frozen (w := w2) BK1.out 1; have hczw2_1_2 : w2.cell? ⟨g1, 2, none⟩ = some (.slice A2 y2.length c2) := (blk_cell BK1.out 2).trans rfl; have hfzw2_1_2 := blk_frozen (w := w2) BK1.out 2; have hczw2_1_3 : w2.cell? ⟨g1, 3, none⟩ = some (.slice A3 y3.length c3) := (blk_cell BK1.out 3).trans rfl; have hfzw2_1_3 := blk_frozen (w := w2) BK1.out 3; have hczw2_2_0 : w2.cell? ⟨g2, 0, none⟩ = some (.int .i64 y0) := (blk_cell BK2.out 0).trans rfl; have hfzw2_2_0 := blk_frozen (w := w2) BK2.out 0; have hczw2_2_1 : w2.cell? ⟨g2, 1, none⟩ = some (.slice A1q y1.length c1q) := (blk_cell BK2.out 1).trans rfl; have hfzw2_2_1 := blk_frozen (w := w2) BK2.out 1; have hczw2_2_2 : w2.cell? ⟨g2, 2, none⟩ = some (.slice A2q y2.length c2q) := (blk_cell BK2.out 2).trans rfl; have hfzw2_2_2 := blk_frozen (w := w2) BK2.out 2; have hczw2_2_3 : w2.cell? ⟨g2, 3, none⟩ = some (.slice A3q y3.length c3q) := (blk_cell BK2.out 3).trans rfl; have hfzw2_2_3 := blk_frozen (w := w2) BK2.out 3) | (go_at_call 41; refine (HelpBB.eq_calls y1 (.slice A1 y1.length c1) (.slice A1q y1.length c1q) _ ?sa ?sb B1.out).mono ?_; (case sa => exact HelpBB.tBB.K_below (by repeat (first | (with_reducible first | exact HB.out | apply below_alloc | apply pw_below_drewN | apply below_drew1) | exact HB.out)) K1.out); (case sb => exact HelpBB.tBB.K_below (by repeat (first | (with_reducible first | exact HB.out | apply below_alloc | apply pw_below_drewN | apply below_drew1) | exact HB.out)) K1q.out); rintro e w3 ⟨rfl, hg⟩; have n1_ := Aside0.mk (blk_below (g := g1) (o := .cells #[.int .i64 y0, .slice A1 y1.length c1, .slice A2 y2.length c2, .slice A3 y3.length c3] 50 (0, 0)) (by (with_reducible repeat (first | refine blk_drewN ?_ _ | refine blk_drew ?_ | refine blk_alloc ?_ _)); exact BK1.out) hg); have n2_ := Aside0.mk (blk_below (g := g2) (o := .cells #[.int .i64 y0, .slice A1q y1.length c1q, .slice A2q y2.length c2q, .slice A3q y3.length c3q] 50 (0, 0)) (by (with_reducible repeat (first | refine blk_drewN ?_ _ | refine blk_drew ?_ | refine blk_alloc ?_ _)); exact BK2.out) hg); have nb_ := Aside0.mk (below_step (by repeat (first | (with_reducible first | exact HB.out | apply below_alloc | apply pw_below_drewN | apply below_drew1) | exact HB.out)) hg); clear BK1 BK2 HB; have BK1 := n1_; have BK2 := n2_; have HB := nb_; clear n1_ n2_ nb_ hg; have hczw3_1_0 : w3.cell? ⟨g1, 0, none⟩ = some (.int .i64 y0) := (blk_cell BK1.out 0).trans rfl; have hfzw3_1_0 := blk_frozen (w := w3) BK1.out 0; have hczw3_1_1 : w3.cell? ⟨g1, 1, none⟩ = some (.slice A1 y1.length c1) := (blk_cell BK1.out 1).trans rfl; have hfzw3_1_1 := blk_frozen (w := w3) BK1.out 1; have hczw3_1_2 : w3.cell? ⟨g1, 2, none⟩ = some (.slice A2 y2.length c2) := (blk_cell BK1.out 2).trans rfl; have hfzw3_1_2 := blk_frozen (w := w3) BK1.out 2; have hczw3_1_3 : w3.cell? ⟨g1, 3, none⟩ = some (.slice A3 y3.length c3) := (blk_cell BK1.out 3).trans rfl; have hfzw3_1_3 := blk_frozen (w := w3) BK1.out 3; have hczw3_2_0 : w3.cell? ⟨g2, 0, none⟩ = some (.int .i64 y0) := (blk_cell BK2.out 0).trans rfl; have hfzw3_2_0 := blk_frozen (w := w3) BK2.out 0; have hczw3_2_1 : w3.cell? ⟨g2, 1, none⟩ = some (.slice A1q y1.length c1q) := (blk_cell BK2.out 1).trans rfl; have hfzw3_2_1 := blk_frozen (w := w3) BK2.out 1; have hczw3_2_2 : w3.cell? ⟨g2, 2, none⟩ = some (.slice A2q y2.length c2q) := (blk_cell BK2.out 2).trans rfl; have hfzw3_2_2 := blk_frozen (w := w3) BK2.out 2; have hczw3_2_3 : w3.cell? ⟨g2, 3, none⟩ = some (.slice A3q y3.length c3q) := (blk_cell BK2.out 3).trans rfl; have hfzw3_2_3 := blk_frozen (w := w3) BK2.out 3) | (go_at_call 22; refine (HelpI.eq_calls y2 (.slice A2 y2.length c2) (.slice A2q y2.length c2q) _ ?sa ?sb B2.out).mono ?_; (case sa => exact HelpI.tI.K_below (by repeat (first | (with_reducible first | exact HB.out | apply below_alloc | apply pw_below_drewN | apply below_drew1) | exact HB.out)) K2.out); (case sb => exact HelpI.tI.K_below (by repeat (first | (with_reducible first | exact HB.out | apply below_alloc | apply pw_below_drewN | apply below_drew1) | exact HB.out)) K2q.out); rintro e w4 ⟨rfl, hg⟩; have n1_ := Aside0.mk (blk_below (g := g1) (o := .cells #[.int .i64 y0, .slice A1 y1.length c1, .slice A2 y2.length c2, .slice A3 y3.length c3] 50 (0, 0)) (by (with_reducible repeat (first | refine blk_drewN ?_ _ | refine blk_drew ?_ | refine blk_alloc ?_ _)); exact BK1.out) hg); have n2_ := Aside0.mk (blk_below (g := g2) (o := .cells #[.int .i64 y0, .slice A1q y1.length c1q, .slice A2q y2.length c2q, .slice A3q y3.length c3q] 50 (0, 0)) (by (with_reducible repeat (first | refine blk_drewN ?_ _ | refine blk_drew ?_ | refine blk_alloc ?_ _)); exact BK2.out) hg); have nb_ := Aside0.mk (below_step (by repeat (first | (with_reducible first | exact HB.out | apply below_alloc | apply pw_below_drewN | apply below_drew1) | exact HB.out)) hg); clear BK1 BK2 HB; have BK1 := n1_; have BK2 := n2_; have HB := nb_; clear n1_ n2_ nb_ hg; have hczw4_1_0 : w4.cell? ⟨g1, 0, none⟩ = some (.int .i64 y0) := (blk_cell BK1.out 0).trans rfl; have hfzw4_1_0 := blk_frozen (w := w4) BK1.out 0; have hczw4_1_1 : w4.cell? ⟨g1, 1, none⟩ = some (.slice A1 y1.length c1) := (blk_cell BK1.out 1).trans rfl; have hfzw4_1_1 := blk_frozen (w := w4) BK1.out 1; have hczw4_1_2 : w4.cell? ⟨g1, 2, none⟩ = some (.slice A2 y2.length c2) := (blk_cell BK1.out 2).trans rfl; have hfzw4_1_2 := blk_frozen (w := w4) BK1.out 2; have hczw4_1_3 : w4.cell? ⟨g1, 3, none⟩ = some (.slice A3 y3.length c3) := (blk_cell BK1.out 3).trans rfl; have hfzw4_1_3 := blk_frozen (w := w4) BK1.out 3; have hczw4_2_0 : w4.cell? ⟨g2, 0, none⟩ = some (.int .i64 y0) := (blk_cell BK2.out 0).trans rfl; have hfzw4_2_0 := blk_frozen (w := w4) BK2.out 0; have hczw4_2_1 : w4.cell? ⟨g2, 1, none⟩ = some (.slice A1q y1.length c1q) := (blk_cell BK2.out 1).trans rfl; have hfzw4_2_1 := blk_frozen (w := w4) BK2.out 1; have hczw4_2_2 : w4.cell? ⟨g2, 2, none⟩ = some (.slice A2q y2.length c2q) := (blk_cell BK2.out 2).trans rfl; have hfzw4_2_2 := blk_frozen (w := w4) BK2.out 2; have hczw4_2_3 : w4.cell? ⟨g2, 3, none⟩ = some (.slice A3q y3.length c3q) := (blk_cell BK2.out 3).trans rfl; have hfzw4_2_3 := blk_frozen (w := w4) BK2.out 3) | (go_at_call 88; refine (HelpII.eq_calls y3 (.slice A3 y3.length c3) (.slice A3q y3.length c3q) _ ?sa ?sb B3.out).mono ?_; (case sa => exact HelpII.tII.K_below (by repeat (first | (with_reducible first | exact HB.out | apply below_alloc | apply pw_below_drewN | apply below_drew1) | exact HB.out)) K3.out); (case sb => exact HelpII.tII.K_below (by repeat (first | (with_reducible first | exact HB.out | apply below_alloc | apply pw_below_drewN | apply below_drew1) | exact HB.out)) K3q.out); rintro e w5 ⟨rfl, hg⟩; have n1_ := Aside0.mk (blk_below (g := g1) (o := .cells #[.int .i64 y0, .slice A1 y1.length c1, .slice A2 y2.length c2, .slice A3 y3.length c3] 50 (0, 0)) (by (with_reducible repeat (first | refine blk_drewN ?_ _ | refine blk_drew ?_ | refine blk_alloc ?_ _)); exact BK1.out) hg); have n2_ := Aside0.mk (blk_below (g := g2) (o := .cells #[.int .i64 y0, .slice A1q y1.length c1q, .slice A2q y2.length c2q, .slice A3q y3.length c3q] 50 (0, 0)) (by (with_reducible repeat (first | refine blk_drewN ?_ _ | refine blk_drew ?_ | refine blk_alloc ?_ _)); exact BK2.out) hg); have nb_ := Aside0.mk (below_step (by repeat (first | (with_reducible first | exact HB.out | apply below_alloc | apply pw_below_drewN | apply below_drew1) | exact HB.out)) hg); clear BK1 BK2 HB; have BK1 := n1_; have BK2 := n2_; have HB := nb_; clear n1_ n2_ nb_ hg; have hczw5_1_0 : w5.cell? ⟨g1, 0, none⟩ = some (.int .i64 y0) := (blk_cell BK1.out 0).trans rfl; have hfzw5_1_0 := blk_frozen (w := w5) BK1.out 0; have hczw5_1_1 : w5.cell? ⟨g1, 1, none⟩ = some (.slice A1 y1.length c1) := (blk_cell BK1.out 1).trans rfl; have hfzw5_1_1 := blk_frozen (w := w5) BK1.out 1; have hczw5_1_2 : w5.cell? ⟨g1, 2, none⟩ = some (.slice A2 y2.length c2) := (blk_cell BK1.out 2).trans rfl; have hfzw5_1_2 := blk_frozen (w := w5) BK1.out 2; have hczw5_1_3 : w5.cell? ⟨g1, 3, none⟩ = some (.slice A3 y3.length c3) := (blk_cell BK1.out 3).trans rfl; have hfzw5_1_3 := blk_frozen (w := w5) BK1.out 3; have hczw5_2_0 : w5.cell? ⟨g2, 0, none⟩ = some (.int .i64 y0) := (blk_cell BK2.out 0).trans rfl; have hfzw5_2_0 := blk_frozen (w := w5) BK2.out 0; have hczw5_2_1 : w5.cell? ⟨g2, 1, none⟩ = some (.slice A1q y1.length c1q) := (blk_cell BK2.out 1).trans rfl; have hfzw5_2_1 := blk_frozen (w := w5) BK2.out 1; have hczw5_2_2 : w5.cell? ⟨g2, 2, none⟩ = some (.slice A2q y2.length c2q) := (blk_cell BK2.out 2).trans rfl; have hfzw5_2_2 := blk_frozen (w := w5) BK2.out 2; have hczw5_2_3 : w5.cell? ⟨g2, 3, none⟩ = some (.slice A3q y3.length c3q) := (blk_cell BK2.out 3).trans rfl; have hfzw5_2_3 := blk_frozen (w := w5) BK2.out 3))
  go_ret
  exact ⟨rfl, by repeat (first | (with_reducible first | exact HB.out | apply below_alloc | apply pw_below_drewN | apply below_drew1) | exact HB.out)⟩
set_option maxRecDepth 100000 in
set_option maxHeartbeats 4000000 in
theorem mark_calls (x : X) (v : Value) (ok : Nat → Prop) (a : Int) (w0 w : World) (hB : Below w0.heap.size w0 w) (h : tSeg.M w w0.heap.size ok x v) (a0 : 0 ≤ a) (a1 : a + cntSeg x ≤ 1099511627776) (hb : bdSeg x) :
    Calls Try.prog 35 #[v, .int .i64 a] w fun e w' => e = .returned (.int .i64 (a + cntSeg x)) ∧ tSeg.M w' w0.heap.size ok (markSeg a x) v ∧ Below w0.heap.size w0 w' ∧ Kept w w' ok := by
  have huI := Try.underlying50
  obtain ⟨y0, y1, y2, y3⟩ := x
  obtain ⟨b1, b2, b3⟩ := hb
  have B1 := Aside0.mk b1
  clear b1
  have B2 := Aside0.mk b2
  clear b2
  have B3 := Aside0.mk b3
  clear b3
  have a1' : a + ((HelpBB.cntBB y1 : Int) + (HelpI.cntI y2 : Int) + (HelpII.cntII y3 : Int)) ≤ 1099511627776 := by have h1 : a + ((HelpBB.cntBB y1 + HelpI.cntI y2 + HelpII.cntII y3 : Nat) : Int) ≤ 1099511627776 := a1; omega
  clear a1
  obtain ⟨l, rfl, hl⟩ := h
  obtain ⟨u0, r0, p0, q0, rfl, hi0, ha0, h0, hl0⟩ := hl
  obtain ⟨u1, r1, p1, q1, rfl, hi1, ha1, h1, hl1⟩ := hl0
  obtain ⟨u2, r2, p2, q2, rfl, hi2, ha2, h2, hl2⟩ := hl1
  obtain ⟨u3, rfl, h3⟩ := hl2
  have h0 : u0 = .int .i64 y0 := h0
  subst h0
  obtain ⟨A1, c1, rfl, _, _⟩ := HelpBB.tBB.K_of_M h1
  have M1 := Aside0.mk (HelpBB.tBB.M_bound h1)
  clear h1
  obtain ⟨A2, c2, rfl, _, _⟩ := HelpI.tI.K_of_M h2
  have M2 := Aside0.mk (HelpI.tI.M_bound h2)
  clear h2
  obtain ⟨A3, c3, rfl, _, _⟩ := HelpII.tII.K_of_M h3
  have M3 := Aside0.mk (HelpII.tII.M_bound h3)
  clear h3
  show Calls _ _ #[.agg #[.int .i64 y0, .slice A1 y1.length c1, .slice A2 y2.length c2, .slice A3 y3.length c3], .int .i64 a] w _
  have HB := Aside0.mk hB
  clear hB
  have HK := Aside0.mk (Kept.refl w ok)
  have in1 : ∀ k, p1 k → ok k := fun k h => (ha0 k (hi1 k h)).1
  have in2 : ∀ k, p2 k → ok k := fun k h => (ha0 k ((ha1 k (hi2 k h)).1)).1
  have in3 : ∀ k, q2 k → ok k := fun k h => (ha0 k ((ha1 k ((ha2 k h).1)).1)).1
  have ap1_2 : ∀ k, p1 k → p2 k → False := fun k g h => (ha1 k (hi2 k h)).2 g
  have ap1_3 : ∀ k, p1 k → q2 k → False := fun k g h => (ha1 k ((ha2 k (h)).1)).2 g
  have ap2_3 : ∀ k, p2 k → q2 k → False := fun k g h => (ha2 k (h)).2 g
  go_enter Try.func35, Try.ntmps35
  go_wp2_with (first | ((with_reducible refine gate_dst (N := 2) rfl ?_); refine box_event ?hg (N := 2) ?hd (cs := #[.int .i64 y0, .slice A1 y1.length c1, .slice A2 y2.length c2, .slice A3 y3.length c3]) (t := 50) ?hr ?_; (case hd => rfl); (case hg => rfl); (case hr => first | (go_simp; done) | (go_simp; rfl)); intro g1 hg w1 hbox hb; have GS1 := Aside0.mk (show w.heap.size = g1 from hg.symm); have BK1 := Aside0.mk hbox; have nb_ := Aside0.mk (below_step HB.out hb); have nk_ := Aside0.mk (Kept.of_below (S := ok) hb); clear HB HK; have HB := nb_; have HK := nk_; clear nb_ nk_; have m1_ := Aside0.mk (Ty.M_below M1.out hb); clear M1; have M1 := m1_; clear m1_; have m2_ := Aside0.mk (Ty.M_below M2.out hb); clear M2; have M2 := m2_; clear m2_; have m3_ := Aside0.mk (Ty.M_below M3.out hb); clear M3; have M3 := m3_; clear m3_; clear hb hbox hg; have hczw1_1_0 : w1.cell? ⟨g1, 0, none⟩ = some (.int .i64 y0) := (blk_cell BK1.out 0).trans rfl; have hfzw1_1_0 := blk_frozen (w := w1) BK1.out 0; have hczw1_1_1 : w1.cell? ⟨g1, 1, none⟩ = some (.slice A1 y1.length c1) := (blk_cell BK1.out 1).trans rfl; have hfzw1_1_1 := blk_frozen (w := w1) BK1.out 1; have hczw1_1_2 : w1.cell? ⟨g1, 2, none⟩ = some (.slice A2 y2.length c2) := (blk_cell BK1.out 2).trans rfl; have hfzw1_1_2 := blk_frozen (w := w1) BK1.out 2; have hczw1_1_3 : w1.cell? ⟨g1, 3, none⟩ = some (.slice A3 y3.length c3) := (blk_cell BK1.out 3).trans rfl; have hfzw1_1_3 := blk_frozen (w := w1) BK1.out 3) | (go_at_call 42; refine (HelpBB.mark_calls y1 (.slice A1 y1.length c1) (fun k => p1 k ∧ w0.heap.size ≤ k ∧ k < w.heap.size) (a) w0 _ HB.out M1.out (by omega) (by omega) B1.out).mono ?_; rintro e w2 ⟨rfl, hm, hb, hk⟩; have n1_ := Aside0.mk (show w2.heap[g1]? = _ from (hk.2 g1 (blk_lt BK1.out) (fun hh => by have h1 := hh.2.2; have h2 := GS1.out; omega)).trans BK1.out); have m2_ := Aside0.mk (Ty.M_kept M2.out hk (fun k hk1 hk2 => ap1_2 k hk2.1 hk1.1)); have m3_ := Aside0.mk (Ty.M_kept M3.out hk (fun k hk1 hk2 => ap1_3 k hk2.1 hk1.1)); have nk_ := Aside0.mk (HK.out.then_ hk (fun k hk1 => .inl (in1 k hk1.1))); clear BK1 HB HK M1; have BK1 := n1_; have HB := Aside0.mk hb; have HK := nk_; have M1 := Aside0.mk hm; clear n1_ nk_ hm hb hk; clear M2; have M2 := m2_; clear m2_; clear M3; have M3 := m3_; clear m3_; have hczw2_1_0 : w2.cell? ⟨g1, 0, none⟩ = some (.int .i64 y0) := (blk_cell BK1.out 0).trans rfl; have hfzw2_1_0 := blk_frozen (w := w2) BK1.out 0; have hczw2_1_1 : w2.cell? ⟨g1, 1, none⟩ = some (.slice A1 y1.length c1) := (blk_cell BK1.out 1).trans rfl; have hfzw2_1_1 := blk_frozen (w := w2) BK1.out 1; have hczw2_1_2 : w2.cell? ⟨g1, 2, none⟩ = some (.slice A2 y2.length c2) := (blk_cell BK1.out 2).trans rfl; have hfzw2_1_2 := blk_frozen (w := w2) BK1.out 2; have hczw2_1_3 : w2.cell? ⟨g1, 3, none⟩ = some (.slice A3 y3.length c3) := (blk_cell BK1.out 3).trans rfl; have hfzw2_1_3 := blk_frozen (w := w2) BK1.out 3) | (go_at_call 25; refine (HelpI.mark_calls y2 (.slice A2 y2.length c2) (fun k => p2 k ∧ w0.heap.size ≤ k ∧ k < w.heap.size) (a + (HelpBB.cntBB y1 : Int)) w0 _ HB.out M2.out (by omega) (by omega) B2.out).mono ?_; rintro e w3 ⟨rfl, hm, hb, hk⟩; have n1_ := Aside0.mk (show w3.heap[g1]? = _ from (hk.2 g1 (blk_lt BK1.out) (fun hh => by have h1 := hh.2.2; have h2 := GS1.out; omega)).trans BK1.out); have m1_ := Aside0.mk (Ty.M_kept M1.out hk (fun k hk1 hk2 => ap1_2 k hk1.1 hk2.1)); have m3_ := Aside0.mk (Ty.M_kept M3.out hk (fun k hk1 hk2 => ap2_3 k hk2.1 hk1.1)); have nk_ := Aside0.mk (HK.out.then_ hk (fun k hk1 => .inl (in2 k hk1.1))); clear BK1 HB HK M2; have BK1 := n1_; have HB := Aside0.mk hb; have HK := nk_; have M2 := Aside0.mk hm; clear n1_ nk_ hm hb hk; clear M1; have M1 := m1_; clear m1_; clear M3; have M3 := m3_; clear m3_; have hczw3_1_0 : w3.cell? ⟨g1, 0, none⟩ = some (.int .i64 y0) := (blk_cell BK1.out 0).trans rfl; have hfzw3_1_0 := blk_frozen (w := w3) BK1.out 0; have hczw3_1_1 : w3.cell? ⟨g1, 1, none⟩ = some (.slice A1 y1.length c1) := (blk_cell BK1.out 1).trans rfl; have hfzw3_1_1 := blk_frozen (w := w3) BK1.out 1; have hczw3_1_2 : w3.cell? ⟨g1, 2, none⟩ = some (.slice A2 y2.length c2) := (blk_cell BK1.out 2).trans rfl; have hfzw3_1_2 := blk_frozen (w := w3) BK1.out 2; have hczw3_1_3 : w3.cell? ⟨g1, 3, none⟩ = some (.slice A3 y3.length c3) := (blk_cell BK1.out 3).trans rfl; have hfzw3_1_3 := blk_frozen (w := w3) BK1.out 3) | (go_at_call 89; refine (HelpII.mark_calls y3 (.slice A3 y3.length c3) (fun k => q2 k ∧ w0.heap.size ≤ k ∧ k < w.heap.size) (a + (HelpBB.cntBB y1 : Int) + (HelpI.cntI y2 : Int)) w0 _ HB.out M3.out (by omega) (by omega) B3.out).mono ?_; rintro e w4 ⟨rfl, hm, hb, hk⟩; have n1_ := Aside0.mk (show w4.heap[g1]? = _ from (hk.2 g1 (blk_lt BK1.out) (fun hh => by have h1 := hh.2.2; have h2 := GS1.out; omega)).trans BK1.out); have m1_ := Aside0.mk (Ty.M_kept M1.out hk (fun k hk1 hk2 => ap1_3 k hk1.1 hk2.1)); have m2_ := Aside0.mk (Ty.M_kept M2.out hk (fun k hk1 hk2 => ap2_3 k hk1.1 hk2.1)); have nk_ := Aside0.mk (HK.out.then_ hk (fun k hk1 => .inl (in3 k hk1.1))); clear BK1 HB HK M3; have BK1 := n1_; have HB := Aside0.mk hb; have HK := nk_; have M3 := Aside0.mk hm; clear n1_ nk_ hm hb hk; clear M1; have M1 := m1_; clear m1_; clear M2; have M2 := m2_; clear m2_; have hczw4_1_0 : w4.cell? ⟨g1, 0, none⟩ = some (.int .i64 y0) := (blk_cell BK1.out 0).trans rfl; have hfzw4_1_0 := blk_frozen (w := w4) BK1.out 0; have hczw4_1_1 : w4.cell? ⟨g1, 1, none⟩ = some (.slice A1 y1.length c1) := (blk_cell BK1.out 1).trans rfl; have hfzw4_1_1 := blk_frozen (w := w4) BK1.out 1; have hczw4_1_2 : w4.cell? ⟨g1, 2, none⟩ = some (.slice A2 y2.length c2) := (blk_cell BK1.out 2).trans rfl; have hfzw4_1_2 := blk_frozen (w := w4) BK1.out 2; have hczw4_1_3 : w4.cell? ⟨g1, 3, none⟩ = some (.slice A3 y3.length c3) := (blk_cell BK1.out 3).trans rfl; have hfzw4_1_3 := blk_frozen (w := w4) BK1.out 3))
  go_ret
  refine ⟨?_, ⟨_, rfl, ⟨_, _, p0, q0, rfl, hi0, ha0, rfl, ⟨_, _, p1, q1, rfl, hi1, ha1, HelpBB.tBB.M_mono (fun k hk => hk.1) M1.out, ⟨_, _, p2, q2, rfl, hi2, ha2, HelpI.tI.M_mono (fun k hk => hk.1) M2.out, ⟨_, rfl, HelpII.tII.M_mono (fun k hk => hk.1) M3.out⟩⟩⟩⟩⟩, HB.out, HK.out⟩
  have e1 : a + (HelpBB.cntBB y1 : Int) + (HelpI.cntI y2 : Int) + (HelpII.cntII y3 : Int) = a + ((HelpBB.cntBB y1 + HelpI.cntI y2 + HelpII.cntII y3 : Nat) : Int) := by omega
  exact congrArg (fun z => Ending.returned (Value.int .i64 z)) e1
set_option maxRecDepth 100000 in
set_option maxHeartbeats 4000000 in
theorem held_calls (x : X) (v : Value) (a : Int) (w : World) (h : tSeg.K w (markSeg a x) v) (a0 : 0 ≤ a) (a1 : a + cntSeg x ≤ 1099511627776) (hb : bdSeg x) :
    Calls Try.prog 43 #[v, .int .i64 a] w fun e w' => e = .returned (.int .i64 (a + cntSeg x)) ∧ Grew w w' := by
  have huI := Try.underlying50
  obtain ⟨y0, y1, y2, y3⟩ := x
  obtain ⟨b1, b2, b3⟩ := hb
  have B1 := Aside0.mk b1
  clear b1
  have B2 := Aside0.mk b2
  clear b2
  have B3 := Aside0.mk b3
  clear b3
  have a1' : a + ((HelpBB.cntBB y1 : Int) + (HelpI.cntI y2 : Int) + (HelpII.cntII y3 : Int)) ≤ 1099511627776 := by have h1 : a + ((HelpBB.cntBB y1 + HelpI.cntI y2 + HelpII.cntII y3 : Nat) : Int) ≤ 1099511627776 := a1; omega
  clear a1
  obtain ⟨l, rfl, hl⟩ := h
  obtain ⟨u0, r0, rfl, h0, hl0⟩ := hl
  obtain ⟨u1, r1, rfl, h1, hl1⟩ := hl0
  obtain ⟨u2, r2, rfl, h2, hl2⟩ := hl1
  obtain ⟨u3, rfl, h3⟩ := hl2
  have h0 : u0 = .int .i64 y0 := h0
  subst h0
  have h1 : HelpBB.tBB.K w (HelpBB.markBB (a) y1) u1 := h1
  obtain ⟨A1, c1, rfl, hc1, hr1⟩ := h1
  generalize hn1 : (HelpBB.markBB (a) y1).length = n1 at hc1 hr1
  have K1 := Aside0.mk (show HelpBB.tBB.K w (HelpBB.markBB (a) y1) (.slice A1 n1 c1) from ⟨A1, c1, by rw [hn1], by rw [hn1]; exact hc1, by rw [hn1]; exact hr1⟩)
  clear hc1 hr1 hn1
  have h2 : HelpI.tI.K w (HelpI.markI (a + (HelpBB.cntBB y1 : Int)) y2) u2 := h2
  obtain ⟨A2, c2, rfl, hc2, hr2⟩ := h2
  generalize hn2 : (HelpI.markI (a + (HelpBB.cntBB y1 : Int)) y2).length = n2 at hc2 hr2
  have K2 := Aside0.mk (show HelpI.tI.K w (HelpI.markI (a + (HelpBB.cntBB y1 : Int)) y2) (.slice A2 n2 c2) from ⟨A2, c2, by rw [hn2], by rw [hn2]; exact hc2, by rw [hn2]; exact hr2⟩)
  clear hc2 hr2 hn2
  have h3 : HelpII.tII.K w (HelpII.markII (a + (HelpBB.cntBB y1 : Int) + (HelpI.cntI y2 : Int)) y3) u3 := h3
  obtain ⟨A3, c3, rfl, hc3, hr3⟩ := h3
  generalize hn3 : (HelpII.markII (a + (HelpBB.cntBB y1 : Int) + (HelpI.cntI y2 : Int)) y3).length = n3 at hc3 hr3
  have K3 := Aside0.mk (show HelpII.tII.K w (HelpII.markII (a + (HelpBB.cntBB y1 : Int) + (HelpI.cntI y2 : Int)) y3) (.slice A3 n3 c3) from ⟨A3, c3, by rw [hn3], by rw [hn3]; exact hc3, by rw [hn3]; exact hr3⟩)
  clear hc3 hr3 hn3
  show Calls _ _ #[.agg #[.int .i64 y0, .slice A1 n1 c1, .slice A2 n2 c2, .slice A3 n3 c3], .int .i64 a] w _
  have HB := Aside0.mk (Below.refl w.heap.size w)
  have nn1 : ¬ (a + (HelpBB.cntBB y1 : Int) < 0) := by omega
  have nn2 : ¬ (a + (HelpBB.cntBB y1 : Int) + (HelpI.cntI y2 : Int) < 0) := by omega
  have nn3 : ¬ (a + (HelpBB.cntBB y1 : Int) + (HelpI.cntI y2 : Int) + (HelpII.cntII y3 : Int) < 0) := by omega
  go_enter Try.func43, Try.ntmps43
  go_wp2_with (first | ((with_reducible refine gate_dst (N := 2) rfl ?_); refine box_event ?hg (N := 2) ?hd (cs := #[.int .i64 y0, .slice A1 n1 c1, .slice A2 n2 c2, .slice A3 n3 c3]) (t := 50) ?hr ?_; (case hd => rfl); (case hg => rfl); (case hr => first | (go_simp; done) | (go_simp; rfl)); intro g1 hg w1 hbox hb; have GS1 := Aside0.mk (show w.heap.size = g1 from hg.symm); have nb_ := Aside0.mk (below_step HB.out hb); have BK1 := Aside0.mk hbox; have GE1 := Aside0.mk ((by rw [hg]; exact HB.out.size) : w.heap.size ≤ g1); clear HB; have HB := nb_; clear nb_ hb hbox hg; have hczw1_1_0 : w1.cell? ⟨g1, 0, none⟩ = some (.int .i64 y0) := (blk_cell BK1.out 0).trans rfl; have hfzw1_1_0 := blk_frozen (w := w1) BK1.out 0; have hczw1_1_1 : w1.cell? ⟨g1, 1, none⟩ = some (.slice A1 n1 c1) := (blk_cell BK1.out 1).trans rfl; have hfzw1_1_1 := blk_frozen (w := w1) BK1.out 1; have hczw1_1_2 : w1.cell? ⟨g1, 2, none⟩ = some (.slice A2 n2 c2) := (blk_cell BK1.out 2).trans rfl; have hfzw1_1_2 := blk_frozen (w := w1) BK1.out 2; have hczw1_1_3 : w1.cell? ⟨g1, 3, none⟩ = some (.slice A3 n3 c3) := (blk_cell BK1.out 3).trans rfl; have hfzw1_1_3 := blk_frozen (w := w1) BK1.out 3) | (go_at_call 98; refine (HelpBB.held_calls y1 (.slice A1 n1 c1) (a) _ ?sa (by omega) (by omega) B1.out).mono ?_; (case sa => exact HelpBB.tBB.K_below (by repeat (first | (with_reducible first | exact HB.out | apply below_alloc | apply pw_below_drewN | apply below_drew1) | exact HB.out)) K1.out); rintro e w2 ⟨rfl, hg⟩; have n1_ := Aside0.mk (blk_below (g := g1) (o := .cells #[.int .i64 y0, .slice A1 n1 c1, .slice A2 n2 c2, .slice A3 n3 c3] 50 (0, 0)) (by (with_reducible repeat (first | refine blk_drewN ?_ _ | refine blk_drew ?_ | refine blk_alloc ?_ _)); exact BK1.out) hg); have nb_ := Aside0.mk (below_step (by repeat (first | (with_reducible first | exact HB.out | apply below_alloc | apply pw_below_drewN | apply below_drew1) | exact HB.out)) hg); clear BK1 HB; have BK1 := n1_; have HB := nb_; clear n1_ nb_ hg; have hczw2_1_0 : w2.cell? ⟨g1, 0, none⟩ = some (.int .i64 y0) := (blk_cell BK1.out 0).trans rfl; have hfzw2_1_0 := blk_frozen (w := w2) BK1.out 0; have hczw2_1_1 : w2.cell? ⟨g1, 1, none⟩ = some (.slice A1 n1 c1) := (blk_cell BK1.out 1).trans rfl; have hfzw2_1_1 := blk_frozen (w := w2) BK1.out 1; have hczw2_1_2 : w2.cell? ⟨g1, 2, none⟩ = some (.slice A2 n2 c2) := (blk_cell BK1.out 2).trans rfl; have hfzw2_1_2 := blk_frozen (w := w2) BK1.out 2; have hczw2_1_3 : w2.cell? ⟨g1, 3, none⟩ = some (.slice A3 n3 c3) := (blk_cell BK1.out 3).trans rfl; have hfzw2_1_3 := blk_frozen (w := w2) BK1.out 3) | (go_at_call 26; refine (HelpI.held_calls y2 (.slice A2 n2 c2) (a + (HelpBB.cntBB y1 : Int)) _ ?sa (by omega) (by omega) B2.out).mono ?_; (case sa => exact HelpI.tI.K_below (by repeat (first | (with_reducible first | exact HB.out | apply below_alloc | apply pw_below_drewN | apply below_drew1) | exact HB.out)) K2.out); rintro e w3 ⟨rfl, hg⟩; have n1_ := Aside0.mk (blk_below (g := g1) (o := .cells #[.int .i64 y0, .slice A1 n1 c1, .slice A2 n2 c2, .slice A3 n3 c3] 50 (0, 0)) (by (with_reducible repeat (first | refine blk_drewN ?_ _ | refine blk_drew ?_ | refine blk_alloc ?_ _)); exact BK1.out) hg); have nb_ := Aside0.mk (below_step (by repeat (first | (with_reducible first | exact HB.out | apply below_alloc | apply pw_below_drewN | apply below_drew1) | exact HB.out)) hg); clear BK1 HB; have BK1 := n1_; have HB := nb_; clear n1_ nb_ hg; have hczw3_1_0 : w3.cell? ⟨g1, 0, none⟩ = some (.int .i64 y0) := (blk_cell BK1.out 0).trans rfl; have hfzw3_1_0 := blk_frozen (w := w3) BK1.out 0; have hczw3_1_1 : w3.cell? ⟨g1, 1, none⟩ = some (.slice A1 n1 c1) := (blk_cell BK1.out 1).trans rfl; have hfzw3_1_1 := blk_frozen (w := w3) BK1.out 1; have hczw3_1_2 : w3.cell? ⟨g1, 2, none⟩ = some (.slice A2 n2 c2) := (blk_cell BK1.out 2).trans rfl; have hfzw3_1_2 := blk_frozen (w := w3) BK1.out 2; have hczw3_1_3 : w3.cell? ⟨g1, 3, none⟩ = some (.slice A3 n3 c3) := (blk_cell BK1.out 3).trans rfl; have hfzw3_1_3 := blk_frozen (w := w3) BK1.out 3) | (go_at_call 99; refine (HelpII.held_calls y3 (.slice A3 n3 c3) (a + (HelpBB.cntBB y1 : Int) + (HelpI.cntI y2 : Int)) _ ?sa (by omega) (by omega) B3.out).mono ?_; (case sa => exact HelpII.tII.K_below (by repeat (first | (with_reducible first | exact HB.out | apply below_alloc | apply pw_below_drewN | apply below_drew1) | exact HB.out)) K3.out); rintro e w4 ⟨rfl, hg⟩; have n1_ := Aside0.mk (blk_below (g := g1) (o := .cells #[.int .i64 y0, .slice A1 n1 c1, .slice A2 n2 c2, .slice A3 n3 c3] 50 (0, 0)) (by (with_reducible repeat (first | refine blk_drewN ?_ _ | refine blk_drew ?_ | refine blk_alloc ?_ _)); exact BK1.out) hg); have nb_ := Aside0.mk (below_step (by repeat (first | (with_reducible first | exact HB.out | apply below_alloc | apply pw_below_drewN | apply below_drew1) | exact HB.out)) hg); clear BK1 HB; have BK1 := n1_; have HB := nb_; clear n1_ nb_ hg; have hczw4_1_0 : w4.cell? ⟨g1, 0, none⟩ = some (.int .i64 y0) := (blk_cell BK1.out 0).trans rfl; have hfzw4_1_0 := blk_frozen (w := w4) BK1.out 0; have hczw4_1_1 : w4.cell? ⟨g1, 1, none⟩ = some (.slice A1 n1 c1) := (blk_cell BK1.out 1).trans rfl; have hfzw4_1_1 := blk_frozen (w := w4) BK1.out 1; have hczw4_1_2 : w4.cell? ⟨g1, 2, none⟩ = some (.slice A2 n2 c2) := (blk_cell BK1.out 2).trans rfl; have hfzw4_1_2 := blk_frozen (w := w4) BK1.out 2; have hczw4_1_3 : w4.cell? ⟨g1, 3, none⟩ = some (.slice A3 n3 c3) := (blk_cell BK1.out 3).trans rfl; have hfzw4_1_3 := blk_frozen (w := w4) BK1.out 3))
  go_ret
  refine ⟨?_, by repeat (first | (with_reducible first | exact HB.out | apply below_alloc | apply pw_below_drewN | apply below_drew1) | exact HB.out)⟩
  have e1 : a + (HelpBB.cntBB y1 : Int) + (HelpI.cntI y2 : Int) + (HelpII.cntII y3 : Int) = a + ((HelpBB.cntBB y1 + HelpI.cntI y2 + HelpII.cntII y3 : Nat) : Int) := by omega
  exact congrArg (fun z => Ending.returned (Value.int .i64 z)) e1
theorem form {w : World} {x : X} {v : Value} (h : tSeg.K w x v) : ∃ (A1 : Option Addr) (c1 : Nat) (A2 : Option Addr) (c2 : Nat) (A3 : Option Addr) (c3 : Nat), v = .agg #[.int .i64 (x.1), .slice A1 (x.2.1).length c1, .slice A2 (x.2.2.1).length c2, .slice A3 (x.2.2.2).length c3] := by
  obtain ⟨y0, y1, y2, y3⟩ := x
  obtain ⟨l, rfl, hl⟩ := h
  obtain ⟨u0, r0, rfl, h0, hl0⟩ := hl
  obtain ⟨u1, r1, rfl, h1, hl1⟩ := hl0
  obtain ⟨u2, r2, rfl, h2, hl2⟩ := hl1
  obtain ⟨u3, rfl, h3⟩ := hl2
  have h0 : u0 = .int .i64 y0 := h0
  subst h0
  obtain ⟨A1, c1, rfl, hc1, hr1⟩ := h1
  obtain ⟨A2, c2, rfl, hc2, hr2⟩ := h2
  obtain ⟨A3, c3, rfl, hc3, hr3⟩ := h3
  exact ⟨A1, c1, A2, c2, A3, c3, rfl⟩
end Go.Proofs.Ytmgmdnmfalepkaa.HelpSeg
