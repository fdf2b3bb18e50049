/- Parts of the proof (see the row's own text): HelpI, HelpII, Sz, Lszs. -/
import Derived.Test.YtmgmdnmfalepkaaG2
import Derived.Test.YtmgmdnmfalepkaaG5
import Derived.Test.YtmgmdnmfalepkaaG4
namespace Go.Proofs.Ytmgmdnmfalepkaa.HelpI
open Go.RowKit Go.Proofs.YtmgmdnmfalepkaaW.PrintWords Go.Proofs.YtmgmdnmfalepkaaW.PrintMore Go.Proofs.Ytmgmdnmfalepkaa.Kit Go.Proofs.Ytmgmdnmfalepkaa.PKit Go.Proofs.Ytmgmdnmfalepkaa.Ty
open Go.Proofs.Ytmgmdnmfalepkaa.L
set_option linter.unusedVariables false
abbrev tI : Ty (List Int) := Ty.row (Kd.int .i64) 3
def markI (a : Int) : List Int → List Int
  | [] => []
  | _ :: r => (a) :: markI (a + 1) r
abbrev cntI (x : List Int) : Nat := x.length
abbrev bdI (x : List Int) : Prop := x.length ≤ 1099511627776
abbrev smallI (x : List Int) : Prop := x.length ≤ 1048576
theorem bd_small {x : List Int} (h : smallI x) : bdI x := Nat.le_trans h (by decide)
theorem cnt_small {x : List Int} (h : smallI x) : cntI x ≤ 1048576 := h
theorem to_ev (l : List Int) (hl : l.length ≤ 35184372088832) : Ev (fun k => laws_toIntS.f k l) l := by
  have key : ∀ (d i : Nat) (out : List Int), i + d = l.length → out.length = l.length → out.take i = l.take i → Ev (fun k => laws_toIntS.l0 k l out i) l := by
    intro d
    induction d with
    | zero =>
      intro i out hd ho ht
      rw [List.take_of_length_le (by omega), List.take_of_length_le (by omega)] at ht
      subst ht
      refine Ev.step (f := fun _ => some out) (fun k => ?_) (Ev.now _)
      simp only [laws_toIntS.l0]
      rw [if_neg (by omega)]
    | succ d ih =>
      intro i out hd ho ht
      refine Ev.step (f := fun k => laws_toIntS.l0 k l (out.set i (rd l i)) ((i + 1 : Nat) : Int)) (fun k => ?_) (ih (i + 1) _ (by omega) (by simp [ho]) (set_take l out i _ (by omega) ho ht ?_))
      · simp only [laws_toIntS.l0]
        rw [if_pos (by omega), if_pos (by omega), if_pos (by omega), wrap_succ i (by omega), Int.toNat_natCast]
      · rw [rd_get l i (by omega), List.getElem?_eq_getElem (by omega)]
  refine Ev.congr (fun k => ?_) (key l.length 0 (List.replicate l.length 0) (by omega) (by simp) (by simp))
  simp only [laws_toIntS.f]
  rw [if_pos (by omega), if_pos (by omega), Int.toNat_natCast]
  rfl
theorem eq_ev (l : List Int) (hl : l.length ≤ 35184372088832) : Ev (fun k => laws_eqIntS.f k l l) true := by
  have key : ∀ (d i : Nat), i + d = l.length → Ev (fun k => laws_eqIntS.l0 k l l i) true := by
    intro d
    induction d with
    | zero =>
      intro i hd
      refine Ev.step (f := fun _ => some true) (fun k => ?_) (Ev.now _)
      simp only [laws_eqIntS.l0]
      rw [if_neg (by omega)]
    | succ d ih =>
      intro i hd
      refine Ev.step (f := fun k => laws_eqIntS.l0 k l l ((i + 1 : Nat) : Int)) (fun k => ?_) (ih (i + 1) (by omega))
      simp only [laws_eqIntS.l0]
      rw [if_pos (by omega), if_pos (by omega), if_pos (by omega), if_pos trivial, wrap_succ i (by omega)]
  refine Ev.congr (fun k => ?_) (key l.length 0 (by omega))
  simp only [laws_eqIntS.f]
  rw [if_pos trivial]
  rfl
theorem mark_ev (l : List Int) (a : Int) (a0 : 0 ≤ a) (a1 : a + l.length ≤ 1099511627776) : Ev (fun k => laws_markIntS.f k l a) (a + l.length, markI a l) := by
  have key : ∀ (r : List Int) (p : List Int) (b : Int), 0 ≤ b → b + r.length ≤ 1099511627776 → p.length + r.length ≤ 1099511627776 → Ev (fun k => laws_markIntS.l0 k (p ++ r) b (p.length : Int)) (b + r.length, p ++ markI b r) := by
    intro r
    induction r with
    | nil =>
      intro p b b0 b1 hp
      refine Ev.step (f := fun _ => some (b, p)) (fun k => ?_) ?_
      · simp only [laws_markIntS.l0]
        rw [if_neg (by simp), List.append_nil]
      · have e : (b + ((([] : List Int).length : Nat) : Int), p ++ markI b []) = (b, p) := by simp [markI]
        rw [e]
        exact Ev.now _
    | cons x r ih =>
      intro p b b0 b1 hp
      simp only [List.length_cons] at b1 hp
      have h := ih (p ++ [b]) (b + 1) (by omega) (by omega) (by simp; omega)
      have e : (b + 1 + (r.length : Int), p ++ [b] ++ markI (b + 1) r) = (b + (((x :: r).length : Nat) : Int), p ++ markI b (x :: r)) := by
        simp only [markI, List.length_cons, List.append_assoc, List.singleton_append]
        congr 1
        omega
      rw [e] at h
      refine Ev.step (fun k => ?_) h
      simp only [laws_markIntS.l0]
      rw [if_pos (by simp; omega), if_pos (by omega), Int.toNat_natCast, wrap_in (x := b + 1) (by omega), wrap_succ _ (by omega)]
      have e2 : (p ++ x :: r).set p.length (b) = p ++ [b] ++ r := by
        rw [List.set_append_right _ _ (Nat.le_refl _), Nat.sub_self]
        simp
      rw [e2]
      simp only [List.length_append, List.length_cons, List.length_nil]
  have h := key l [] a a0 a1 (by simp; omega)
  exact Ev.congr (fun k => by simp only [laws_markIntS.f]; rfl) h
theorem held_ev (l : List Int) (a : Int) (a0 : 0 ≤ a) (a1 : a + l.length ≤ 1099511627776) : Ev (fun k => laws_heldIntS.f k (markI a l) a) (a + l.length) := by
  have key : ∀ (r : List Int) (p : List Int) (b : Int), 0 ≤ b → b + r.length ≤ 1099511627776 → p.length + r.length ≤ 1099511627776 → Ev (fun k => laws_heldIntS.l0 k (p ++ markI b r) b (p.length : Int)) (b + r.length) := by
    intro r
    induction r with
    | nil =>
      intro p b b0 b1 hp
      have e : (b + ((([] : List Int).length : Nat) : Int)) = b := by simp
      rw [e]
      refine Ev.step (f := fun _ => some b) (fun k => ?_) (Ev.now _)
      simp only [laws_heldIntS.l0]
      rw [if_neg (by simp [markI])]
    | cons x r ih =>
      intro p b b0 b1 hp
      simp only [List.length_cons] at b1 hp
      have h := ih (p ++ [b]) (b + 1) (by omega) (by omega) (by simp; omega)
      have e : (b + 1 + (r.length : Int)) = (b + (((x :: r).length : Nat) : Int)) := by simp only [List.length_cons]; omega
      rw [e, List.append_assoc] at h
      refine Ev.step (fun k => ?_) h
      simp only [laws_heldIntS.l0]
      have hg : rd (p ++ markI b (x :: r)) (p.length : Int) = b := by simp [rd, markI]
      rw [if_pos (by simp [markI]; omega), if_pos (by omega), hg, if_pos rfl, wrap_in (x := b + 1) (by omega), wrap_succ _ (by omega)]
      simp only [List.length_append, List.length_cons, List.length_nil]
      rfl
  have h := key l [] a a0 a1 (by simp; omega)
  exact Ev.congr (fun k => by simp only [laws_heldIntS.f]; rfl) h
theorem to_calls (x : List Int) (v : Value) (w : World) (h : tI.K w x v) (hl : bdI x) :
    Calls Try.prog 65 #[v] w fun e w' => ∃ v', e = .returned v' ∧ tI.M w' w.heap.size (fun _ => True) x v' ∧ Grew w w' := by
  obtain ⟨A, c, rfl, hc, hr⟩ := h
  obtain ⟨k, hk⟩ := (to_ev x (by omega)).rounds
  exact laws_toIntS.calls k A c x x w hr hc hk
theorem eq_calls (x : List Int) (v v' : Value) (w : World) (h : tI.K w x v) (h' : tI.K w x v') (hl : bdI x) :
    Calls Try.prog 22 #[v, v'] w fun e w' => e = .returned (.bool true) ∧ Grew w w' := by
  obtain ⟨A, c, rfl, hc, hr⟩ := h
  obtain ⟨A', c', rfl, hc', hr'⟩ := h'
  obtain ⟨k, hk⟩ := (eq_ev x (by omega)).rounds
  refine (laws_eqIntS.calls k A c x A' c' x true w hr hc hr' hc' hk).mono ?_
  rintro e w' ⟨rfl, h2⟩
  exact ⟨rfl, h2.below⟩
theorem mark_calls (x : List Int) (v : Value) (ok : Nat → Prop) (a : Int) (w0 w : World) (hB : Below w0.heap.size w0 w) (h : tI.M w w0.heap.size ok x v) (a0 : 0 ≤ a) (a1 : a + cntI x ≤ 1099511627776) (_hl : bdI x) :
    Calls Try.prog 25 #[v, .int .i64 a] w fun e w' => e = .returned (.int .i64 (a + cntI x)) ∧ tI.M w' w0.heap.size ok (markI a x) v ∧ Below w0.heap.size w0 w' ∧ Kept w w' ok := by
  obtain ⟨k, hk⟩ := (mark_ev x a a0 a1).rounds
  have h : Kd.R (Kd.int .i64) 3 w w0.heap.size ok v x := h
  refine (laws_markIntS.calls k ok v x a _ _ w0 w hB h hk).mono ?_
  rintro e w' ⟨rfl, h1, h2, h3⟩
  refine ⟨rfl, ?_, h2, h3⟩
  exact Kd.R_mono (Kd.R_tight rfl h1) (fun k hk => h.1 k hk.symm)
theorem held_calls (x : List Int) (v : Value) (a : Int) (w : World) (h : tI.K w (markI a x) v) (a0 : 0 ≤ a) (a1 : a + cntI x ≤ 1099511627776) (_hl : bdI x) :
    Calls Try.prog 26 #[v, .int .i64 a] w fun e w' => e = .returned (.int .i64 (a + cntI x)) ∧ Grew w w' := by
  obtain ⟨A, c, rfl, hc, hr⟩ := h
  obtain ⟨k, hk⟩ := (held_ev x a a0 a1).rounds
  refine (laws_heldIntS.calls k A c (markI a x) a _ w hr hc hk).mono ?_
  rintro e w' ⟨rfl, h2⟩
  exact ⟨rfl, h2.below⟩
end Go.Proofs.Ytmgmdnmfalepkaa.HelpI

namespace Go.Proofs.Ytmgmdnmfalepkaa.HelpII
open Go.RowKit Go.Proofs.YtmgmdnmfalepkaaW.PrintWords Go.Proofs.YtmgmdnmfalepkaaW.PrintMore Go.Proofs.Ytmgmdnmfalepkaa.Kit Go.Proofs.Ytmgmdnmfalepkaa.PKit Go.Proofs.Ytmgmdnmfalepkaa.Ty Go.Proofs.Ytmgmdnmfalepkaa.HelpI
open Go.Proofs.Ytmgmdnmfalepkaa.L
set_option linter.unusedVariables false
abbrev kI := Kd.slice 3 (Kd.int .i64)
abbrev tII : Ty (List (List Int)) := Ty.rows kI 22
def totalI : List (List Int) → Nat
  | [] => 0
  | x :: r => x.length + totalI r
abbrev cntII (x : List (List Int)) : Nat := totalI x
abbrev bdII (x : List (List Int)) : Prop := x.length ≤ 1099511627776 ∧ totalI x ≤ 1099511627776
abbrev smallII (x : List (List Int)) : Prop := x.length + totalI x ≤ 1048576
theorem bd_small {x : List (List Int)} (h : smallII x) : bdII x := ⟨by have : x.length + totalI x ≤ 1048576 := h; omega, by have : x.length + totalI x ≤ 1048576 := h; omega⟩
theorem cnt_small {x : List (List Int)} (h : smallII x) : cntII x ≤ 1048576 := by have : x.length + totalI x ≤ 1048576 := h; show totalI x ≤ _; omega
def markII (a : Int) : List (List Int) → List (List Int)
  | [] => []
  | x :: r => markI a x :: markII (a + x.length) r
def part (a : Int) (xs : List (List Int)) (i : Nat) : List (List Int) := markII a (xs.take i) ++ xs.drop i
theorem markII_len (xs : List (List Int)) : ∀ a, (markII a xs).length = xs.length := by
  induction xs with
  | nil => intro a; rfl
  | cons x r ih => intro a; simp [markII, ih]
theorem mark_snoc (xs : List (List Int)) (x : List Int) : ∀ a, markII a (xs ++ [x]) = markII a xs ++ [markI (a + totalI xs) x] := by
  induction xs with
  | nil => intro a; simp [markII, totalI]
  | cons y r ih =>
    intro a
    simp only [List.cons_append, markII, ih, totalI]
    congr 4
    omega
theorem total_snoc (xs : List (List Int)) (x : List Int) : totalI (xs ++ [x]) = totalI xs + x.length := by
  induction xs with
  | nil => simp [totalI]
  | cons y r ih => simp only [List.cons_append, totalI, ih]; omega
theorem total_append (xs ys : List (List Int)) : totalI (xs ++ ys) = totalI xs + totalI ys := by
  induction xs with
  | nil => simp [totalI]
  | cons y r ih => simp only [List.cons_append, totalI, ih]; omega
theorem take_snoc (xs : List (List Int)) (i : Nat) (hi : i < xs.length) : xs.take (i + 1) = xs.take i ++ [xs.getD i []] := by
  rw [List.take_succ_eq_append_getElem hi]
  simp [List.getD, List.getElem?_eq_getElem hi]
theorem part_get (a : Int) (xs : List (List Int)) (i : Nat) (hi : i < xs.length) : (part a xs i).getD i [] = xs.getD i [] := by
  unfold part
  have hl : (markII a (xs.take i)).length = i := by rw [markII_len, List.length_take]; omega
  simp only [List.getD]
  rw [List.getElem?_append_right (by omega), hl, Nat.sub_self, List.getElem?_drop]
  rfl
theorem part_set (a : Int) (xs : List (List Int)) (i : Nat) (hi : i < xs.length) : (part a xs i).set i (markI (a + totalI (xs.take i)) (xs.getD i [])) = part a xs (i + 1) := by
  unfold part
  have hl : (markII a (xs.take i)).length = i := by rw [markII_len, List.length_take]; omega
  rw [List.set_append_right _ _ (by omega), hl, Nat.sub_self, take_snoc xs i hi, mark_snoc, List.append_assoc]
  have hd : xs.drop i = xs.getD i [] :: xs.drop (i + 1) := by
    rw [List.drop_eq_getElem_cons hi]
    simp [List.getD, List.getElem?_eq_getElem hi]
  rw [hd]
  rfl
theorem total_take (xs : List (List Int)) (i : Nat) : totalI (xs.take i) ≤ totalI xs := by
  induction xs generalizing i with
  | nil => simp [totalI]
  | cons x r ih =>
    cases i with
    | zero => simp [totalI]
    | succ i => simp only [List.take_succ_cons, totalI]; have := ih i; omega
theorem total_mem {xs : List (List Int)} {x : List Int} (h : x ∈ xs) : x.length ≤ totalI xs := by
  induction xs with
  | nil => cases h
  | cons y r ih =>
    simp only [totalI]
    rcases List.mem_cons.1 h with e | h
    · subst e; omega
    · have := ih h; omega
theorem rdL_mem (xs : List (List Int)) (i : Nat) (h : i < xs.length) : rd_L3 xs (i : Int) ∈ xs := by
  have e : rd_L3 xs (i : Int) = xs[i] := by simp [rd_L3, List.getD, List.getElem?_eq_getElem h]
  rw [e]
  exact List.getElem_mem _
theorem to_ev (l : List (List Int)) (hl : l.length ≤ 11728124029610) (hx : totalI l ≤ 35184372088832) : Ev (fun k => laws_toIntSS.f k l) l := by
  have key : ∀ (d i : Nat) (out : List (List Int)), i + d = l.length → out.length = l.length → out.take i = l.take i → Ev (fun k => laws_toIntSS.l0 k l out i) l := by
    intro d
    induction d with
    | zero =>
      intro i out hd ho ht
      rw [List.take_of_length_le (by omega), List.take_of_length_le (by omega)] at ht
      subst ht
      refine Ev.step (f := fun _ => some out) (fun k => ?_) (Ev.now _)
      simp only [laws_toIntSS.l0]
      rw [if_neg (by omega)]
    | succ d ih =>
      intro i out hd ho ht
      have hm := rdL_mem l i (by omega)
      obtain ⟨K1, g1⟩ := HelpI.to_ev (rd_L3 l (i : Int)) (by have := total_mem hm; omega)
      obtain ⟨K2, g2⟩ := ih (i + 1) (out.set i (rd_L3 l (i : Int))) (by omega) (by simp [ho]) (set_take l out i _ (by omega) ho ht (by simp [rd_L3, List.getD, List.getElem?_eq_getElem (show i < l.length by omega)]))
      refine ⟨K1 + K2 + 1, fun n hn => ?_⟩
      obtain ⟨n, rfl⟩ : ∃ m, n = m + 1 := ⟨n - 1, by omega⟩
      have g1' := g1 n (by omega)
      have g2' := g2 n (by omega)
      simp only at g1' g2'
      simp only [laws_toIntSS.l0]
      rw [if_pos (by omega), if_pos (by omega), g1', Option.bind_some, if_pos (by omega), wrap_succ i (by omega), Int.toNat_natCast, g2']
  refine Ev.congr (fun k => ?_) (key l.length 0 (List.replicate l.length []) (by omega) (by simp) (by simp))
  simp only [laws_toIntSS.f]
  rw [if_pos (by omega), if_pos (by omega), Int.toNat_natCast]
  rfl
theorem eq_ev (xs : List (List Int)) (hl : xs.length ≤ 1099511627776) (ht : totalI xs ≤ 35184372088832) : Ev (fun k => laws_eqIntSS.f k xs xs) true := by
  have key : ∀ (d i : Nat), i + d = xs.length → Ev (fun k => laws_eqIntSS.l0 k xs xs i) true := by
    intro d
    induction d with
    | zero =>
      intro i hd
      refine Ev.step (f := fun _ => some true) (fun k => ?_) (Ev.now _)
      simp only [laws_eqIntSS.l0]
      rw [if_neg (by omega)]
    | succ d ih =>
      intro i hd
      obtain ⟨K1, g1⟩ := HelpI.eq_ev (rd_L3 xs (i : Int)) (by have := total_mem (rdL_mem xs i (by omega)); omega)
      obtain ⟨K2, g2⟩ := ih (i + 1) (by omega)
      refine ⟨K1 + K2 + 1, fun n hn => ?_⟩
      obtain ⟨n, rfl⟩ : ∃ m, n = m + 1 := ⟨n - 1, by omega⟩
      have g1' := g1 n (by omega)
      have g2' := g2 n (by omega)
      simp only at g1' g2'
      simp only [laws_eqIntSS.l0]
      rw [if_pos (by omega), if_pos (by omega), if_pos (by omega), g1', Option.bind_some, if_pos rfl, wrap_succ i (by omega), g2']
  refine Ev.congr (fun k => ?_) (key xs.length 0 (by omega))
  simp only [laws_eqIntSS.f]
  rw [if_pos trivial]
  rfl
theorem held_ev (xs : List (List Int)) (a : Int) (a0 : 0 ≤ a) (a1 : a + totalI xs ≤ 1099511627776) (hl : xs.length ≤ 1099511627776) : Ev (fun k => laws_heldIntSS.f k (markII a xs) a) (a + totalI xs) := by
  have key : ∀ (r : List (List Int)) (p : List (List Int)) (b : Int), 0 ≤ b → b + totalI r ≤ 1099511627776 → p.length + r.length ≤ 1099511627776 → Ev (fun k => laws_heldIntSS.l0 k (p ++ markII b r) b (p.length : Int)) (b + totalI r) := by
    intro r
    induction r with
    | nil =>
      intro p b b0 b1 hp
      have e : (b + ((totalI [] : Nat) : Int)) = b := by simp [totalI]
      rw [e]
      refine Ev.step (f := fun _ => some b) (fun k => ?_) (Ev.now _)
      simp only [laws_heldIntSS.l0]
      rw [if_neg (by simp [markII])]
    | cons x r ih =>
      intro p b b0 b1 hp
      simp only [List.length_cons, totalI] at b1 hp
      obtain ⟨K2, g2⟩ := ih (p ++ [markI b x]) (b + x.length) (by omega) (by omega) (by simp; omega)
      obtain ⟨K1, g1⟩ := HelpI.held_ev x b b0 (by omega)
      refine ⟨K1 + K2 + 1, fun n hn => ?_⟩
      obtain ⟨n, rfl⟩ : ∃ m, n = m + 1 := ⟨n - 1, by omega⟩
      have g1' := g1 n (by omega)
      have g2' := g2 n (by omega)
      simp only at g1' g2'
      simp only [laws_heldIntSS.l0]
      have hg : rd_L3 (p ++ markII b (x :: r)) (p.length : Int) = markI b x := by simp [rd_L3, markII]
      rw [if_pos (by simp [markII]; omega), if_pos (by omega), hg, g1', Option.bind_some, if_neg (by omega), wrap_succ _ (by omega)]
      have e1 : p ++ markII b (x :: r) = p ++ [markI b x] ++ markII (b + x.length) r := by simp [markII]
      have e2 : ((p.length + 1 : Nat) : Int) = (((p ++ [markI b x]).length : Nat) : Int) := by simp
      rw [e1, e2, g2']
      simp only [totalI]
      congr 1
      omega
  have h := key xs [] a a0 a1 (by simp; omega)
  exact Ev.congr (fun k => by simp only [laws_heldIntSS.f]; rfl) h
theorem to_calls (x : List (List Int)) (v : Value) (w : World) (h : tII.K w x v) (hb : bdII x) :
    Calls Try.prog 80 #[v] w fun e w' => ∃ v', e = .returned v' ∧ tII.M w' w.heap.size (fun _ => True) x v' ∧ Grew w w' := by
  obtain ⟨hl, ht⟩ := hb
  obtain ⟨A, c, rfl, hc, hr⟩ := h
  obtain ⟨k, hk⟩ := (to_ev x (by omega) (by omega)).rounds
  exact laws_toIntSS.calls k A c x x w hr hc hk
theorem eq_calls (x : List (List Int)) (v v' : Value) (w : World) (h : tII.K w x v) (h' : tII.K w x v') (hb : bdII x) :
    Calls Try.prog 88 #[v, v'] w fun e w' => e = .returned (.bool true) ∧ Grew w w' := by
  obtain ⟨hl, ht⟩ := hb
  obtain ⟨A, c, rfl, hc, hr⟩ := h
  obtain ⟨A', c', rfl, hc', hr'⟩ := h'
  obtain ⟨k, hk⟩ := (eq_ev x (by omega) (by omega)).rounds
  refine (laws_eqIntSS.calls k A c x A' c' x true w hr hc hr' hc' hk).mono ?_
  rintro e w' ⟨rfl, h2⟩
  exact ⟨rfl, h2.below⟩
set_option maxRecDepth 100000 in
set_option maxHeartbeats 2000000 in
theorem mark_calls (xs : List (List Int)) (v : Value) (ok : Nat → Prop) (a : Int) (w0 w : World) (hB : Below w0.heap.size w0 w) (h : tII.M w w0.heap.size ok xs v) (a0 : 0 ≤ a) (a1 : a + cntII xs ≤ 1099511627776) (hb : bdII xs) :
    Calls Try.prog 89 #[v, .int .i64 a] w fun e w' => e = .returned (.int .i64 (a + cntII xs)) ∧ tII.M w' w0.heap.size ok (markII a xs) v ∧ Below w0.heap.size w0 w' ∧ Kept w w' ok := by
  have h : Kd.S kI 22 w w0.heap.size ok v xs := h
  obtain ⟨hlen, _⟩ := hb
  by_cases hz : xs.length = 0
  · obtain rfl := List.length_eq_zero_iff.1 hz
    obtain ⟨A, c, rfl⟩ := Kd.S_slice h
    have HH := Aside0.mk h
    have HB := Aside0.mk hB
    clear h hB hz hlen
    simp only [List.length_nil]
    go_enter Try.func89, Try.ntmps89
    go_wp2
    go_loopg [1, 5] 0 (fun gg s1 s5 wr => s1 = .int .i64 a ∧ s5 = .int .i64 0 ∧ wr = w)
    case atStart => exact ⟨rfl, rfl, rfl⟩
    case round =>
      obtain ⟨rfl, rfl, rfl⟩ := hrel
      go_wp2
      go_ret
      exact ⟨by simp [totalI], HH.out, HB.out, Kept.refl _ _⟩
  · obtain ⟨g, cap, rfl, _, _, _⟩ := Kd.S_form h (by omega)
    have HH := Aside0.mk h
    have HB0 := Aside0.mk hB
    have HL := Aside0.mk (show a + (totalI xs : Int) ≤ 1099511627776 from a1)
    clear h hB
    go_enter Try.func89, Try.ntmps89
    go_wp2
    go_loopg [1, 5] xs.length (fun gg s1 s5 wr => ∃ i : Nat, i ≤ xs.length ∧ xs.length - i ≤ gg ∧ s1 = .int .i64 (a + totalI (xs.take i)) ∧ s5 = .int .i64 i ∧ Aside0 (Kd.S kI 22 wr w0.heap.size ok (.slice (some ⟨g, 0, none⟩) xs.length cap) (part a xs i)) ∧ Aside0 (Below w0.heap.size w0 wr) ∧ Aside0 (Kept w wr ok))
    case atStart => exact ⟨0, by omega, by omega, by simp [totalI], rfl, ⟨HH.out⟩, ⟨HB0.out⟩, ⟨Kept.refl _ _⟩⟩
    case round =>
      obtain ⟨i, hi, hg, rfl, rfl, HS, HB, HK⟩ := hrel
      by_cases hlt : i < xs.length
      · have hltz : (i : Int) < (xs.length : Int) := by omega
        obtain ⟨oki, c, hcl, hM, hcell, hoki, hH⟩ := Kd.S_lend HS.out [] (i : Int) (by omega) (by omega)
        rw [Int.toNat_natCast, part_get a xs i hlt] at hM
        obtain ⟨u, rfl, hR⟩ := hM
        have hc0 := hcell 0 u rfl
        rw [Int.toNat_natCast] at hc0
        have hc1 : wr.cell? ⟨g, i, none⟩ = some u := by simpa [kI, Kd.slice] using hc0
        have htt := total_take xs (i + 1)
        rw [take_snoc xs i hlt, total_snoc] at htt
        have hcall := HelpI.mark_calls (xs.getD i []) u oki (a + totalI (xs.take i)) w0 wr HB.out hR (by omega) (by have := HL.out; show a + (totalI (xs.take i) : Int) + ((xs.getD i []).length : Int) ≤ _; omega) (by have := HL.out; show (xs.getD i []).length ≤ _; omega)
        have HH2 := Aside0.mk hH
        have HO := Aside0.mk hoki
        clear hcell hc0 hH hoki hR
        generalize hx : xs.getD i [] = x at hcall htt
        have HX := Aside0.mk hx
        clear hx
        go_wp2_with (go_at_call 25; refine hcall.mono ?_; rintro e w' ⟨rfl, hR', hB', hK'⟩)
        go_roundg (xs.length - (i + 1))
        case measure => omega
        case rel =>
          refine ⟨i + 1, by omega, by omega, ?_, by go_num, ⟨?_⟩, ⟨hB'⟩, ⟨HK.out.then_ hK' (fun k hk => .inl (HO.out k hk).1)⟩⟩
          · show Value.int .i64 (a + (totalI (xs.take i) : Int) + (x.length : Int)) = _
            rw [take_snoc xs i hlt, total_snoc, HX.out]
            congr 1
            omega
          · have h1 := Kd.H_back (Kd.H_step HH2.out (fun k hk hn hl => hK'.2 k hl hn)) (x' := markI (a + totalI (xs.take i)) x) ⟨u, rfl, hR'⟩ (fun _ hk => hk)
            rw [Int.toNat_natCast, ← HX.out, part_set a xs i hlt] at h1
            exact h1
      · obtain rfl : i = xs.length := by omega
        go_wp2
        go_ret
        refine ⟨by rw [List.take_length]; rfl, ?_, HB.out, HK.out⟩
        have := HS.out
        unfold part at this
        rw [List.take_length, List.drop_length, List.append_nil] at this
        exact this
theorem held_calls (xs : List (List Int)) (v : Value) (a : Int) (w : World) (h : tII.K w (markII a xs) v) (a0 : 0 ≤ a) (a1 : a + cntII xs ≤ 1099511627776) (hb : bdII xs) :
    Calls Try.prog 99 #[v, .int .i64 a] w fun e w' => e = .returned (.int .i64 (a + cntII xs)) ∧ Grew w w' := by
  obtain ⟨A, c, rfl, hc, hr⟩ := h
  obtain ⟨k, hk⟩ := (held_ev xs a a0 a1 hb.1).rounds
  refine (laws_heldIntSS.calls k A c (markII a xs) a _ w hr hc hk).mono ?_
  rintro e w' ⟨rfl, h2⟩
  exact ⟨rfl, h2.below⟩
end Go.Proofs.Ytmgmdnmfalepkaa.HelpII

namespace Go.Proofs.Ytmgmdnmfalepkaa.Ty
open Go.RowKit Go.Proofs.YtmgmdnmfalepkaaW.PrintWords Go.Proofs.YtmgmdnmfalepkaaW.PrintMore Go.Proofs.Ytmgmdnmfalepkaa.Kit Go.Proofs.Ytmgmdnmfalepkaa.PKit
set_option linter.unusedVariables false
theorem Ty.M_set {α : Type} {T : Ty α} {w : World} {base : Nat} {ok : Nat → Prop} {x : α} {v : Value} (h : T.M w base ok x v) {g j : Nat} (hne : ∀ k, ok k → k = g → False) (u : Value) : T.M (w.setCell ⟨g, j, none⟩ u) base ok x v :=
  T.M_move (fun k hk => Below.heap_setCell w ⟨g, j, none⟩ u k (fun e => hne k hk e)) h
theorem Tys.M_one {α : Type} {a : Ty α} {w : World} {base : Nat} {ok : Nat → Prop} {x : α} {v : Value} (h : a.M w base ok x v) : (Tys.one a).M w base ok x [v] := ⟨v, rfl, h⟩
theorem Tys.cons_apart {α β : Type} {a : Ty α} {b : Tys β} {w : World} {base : Nat} {ok1 ok2 : Nat → Prop} {x : α} {y : β} {v : Value} {r : List Value} (h1 : a.M w base ok1 x v) (h2 : b.M w base ok2 y r) (hd : ∀ k, ok2 k → ok1 k → False) :
    (Tys.cons a b).M w base (fun k => ok1 k ∨ ok2 k) (x, y) (v :: r) :=
  ⟨v, r, ok1, ok2, rfl, fun _ h => .inl h, fun k h => ⟨.inr h, fun h' => hd k h h'⟩, h1, h2⟩
end Go.Proofs.Ytmgmdnmfalepkaa.Ty
namespace Go.Proofs.Ytmgmdnmfalepkaa.HelpBB
open Go.RowKit Go.Proofs.YtmgmdnmfalepkaaW.PrintWords Go.Proofs.Ytmgmdnmfalepkaa.PKit Go.Proofs.Ytmgmdnmfalepkaa.L Go.Proofs.Ytmgmdnmfalepkaa.Ty
theorem lens {x : List (List Int)} (hK : ∃ w v, tBB.K w x v) : x.length ≤ 9223372036854775807 ∧ ∀ i, (x.getD i []).length ≤ 9223372036854775807 := by
  obtain ⟨w, v, A, c, rfl, hc, hr⟩ := hK
  refine ⟨hr.2.1, fun i => ?_⟩
  by_cases hi : i < x.length
  · obtain ⟨ad, e, h⟩ := hr.2.2 (by omega)
    obtain ⟨cs, _, hK, _⟩ := h i (x.getD i []) (by simp [List.getD, List.getElem?_eq_getElem hi])
    obtain ⟨A', c', _, _, hr'⟩ := hK
    exact hr'.2.1
  · simp [List.getD, List.getElem?_eq_none (Nat.le_of_not_lt hi)]
theorem sz_ev (x : List (List Int)) (left : Int) (h0 : 0 ≤ left) (h1 : left ≤ 1048576) (hK : ∃ w v, tBB.K w x v) :
    ∃ r, Ev (fun k => laws_szByteSS.f k x left) r ∧ (0 ≤ r → r + ((x.length + totalB x : Nat) : Int) = left) := by
  obtain ⟨hl, hi⟩ := lens hK
  have hb : -9223372036854775808 ≤ left - (x.length : Int) ∧ left - (x.length : Int) ≤ 9223372036854775807 := by omega
  by_cases hneg : left - (x.length : Int) < 0
  · refine ⟨-1, Ev.congr (f := fun _ => some (-1)) (fun k => ?_) (Ev.now _), by omega⟩
    simp only [laws_szByteSS.f]
    rw [wrap_in hb, if_pos hneg]
  have key : ∀ (d i : Nat) (l : Int), i + d = x.length → 0 ≤ l → l ≤ 1048576 → ∃ r, Ev (fun k => laws_szByteSS.l0 k x l (i : Int)) r ∧ (0 ≤ r → r + ((totalB (x.drop i) : Nat) : Int) = l) := by
    intro d
    induction d with
    | zero =>
      intro i l hd l0 l1
      refine ⟨l, Ev.step (f := fun _ => some l) (fun k => ?_) (Ev.now _), fun _ => ?_⟩
      · simp only [laws_szByteSS.l0]
        rw [if_neg (by omega)]
      · rw [List.drop_of_length_le (by omega)]
        simp [totalB]
    | succ d ih =>
      intro i l hd l0 l1
      have hlt : i < x.length := by omega
      have hg : rd_L1 x (i : Int) = x.getD i [] := rfl
      have hli := hi i
      have hb2 : -9223372036854775808 ≤ l - ((x.getD i []).length : Int) ∧ l - ((x.getD i []).length : Int) ≤ 9223372036854775807 := by omega
      have hdr : x.drop i = x.getD i [] :: x.drop (i + 1) := by
        rw [List.drop_eq_getElem_cons hlt]
        simp [List.getD, List.getElem?_eq_getElem hlt]
      by_cases hn : l - ((x.getD i []).length : Int) < 0
      · refine ⟨-1, Ev.step (f := fun _ => some (-1)) (fun k => ?_) (Ev.now _), by omega⟩
        simp only [laws_szByteSS.l0]
        rw [if_pos (by omega), if_pos (by omega), hg]
        simp only [laws_szByteS.f]
        rw [wrap_in hb2, if_pos hn, Option.bind_some, if_pos (by decide)]
      · obtain ⟨r, hr, hq⟩ := ih (i + 1) (l - ((x.getD i []).length : Int)) (by omega) (by omega) (by omega)
        refine ⟨r, Ev.step (fun k => ?_) hr, fun h => ?_⟩
        · simp only [laws_szByteSS.l0]
          rw [if_pos (by omega), if_pos (by omega), hg]
          simp only [laws_szByteS.f]
          rw [wrap_in hb2, if_neg hn, Option.bind_some, if_neg hn, wrap_succ i (by omega)]
        · have := hq h
          rw [hdr]
          simp only [totalB]
          omega
  obtain ⟨r, hr, hq⟩ := key x.length 0 (left - (x.length : Int)) (by omega) (by omega) (by omega)
  refine ⟨r, Ev.congr (fun k => ?_) hr, fun h => ?_⟩
  · simp only [laws_szByteSS.f]
    rw [wrap_in hb, if_neg hneg]
    rfl
  · have := hq h
    rw [List.drop_zero] at this
    omega
theorem sz_pure (x : List (List Int)) (left : Int) (h0 : 0 ≤ left) (h1 : left ≤ 1048576) (hK : ∃ w v, tBB.K w x v) :
    ∃ r, (0 ≤ r → 0 ≤ r ∧ r ≤ left ∧ smallBB x) ∧ ∀ (w : World) {v : Value}, tBB.K w x v → Calls Try.prog 37 #[v, .int .i64 left] w fun e w' => e = .returned (.int .i64 r) ∧ Below w.heap.size w w' := by
  obtain ⟨r, hr, hq⟩ := sz_ev x left h0 h1 hK
  obtain ⟨k, hk⟩ := hr.rounds
  refine ⟨r, fun h => ⟨h, by have := hq h; omega, by show x.length + totalB x ≤ 1048576; have := hq h; omega⟩, fun w v hv => ?_⟩
  obtain ⟨A, c, rfl, hc, hr⟩ := hv
  refine (laws_szByteSS.calls k A c x left r w hr hc hk).mono ?_
  rintro e w' ⟨rfl, h⟩
  exact ⟨rfl, h.below⟩
end Go.Proofs.Ytmgmdnmfalepkaa.HelpBB
namespace Go.Proofs.Ytmgmdnmfalepkaa.HelpII
open Go.RowKit Go.Proofs.YtmgmdnmfalepkaaW.PrintWords Go.Proofs.Ytmgmdnmfalepkaa.PKit Go.Proofs.Ytmgmdnmfalepkaa.L Go.Proofs.Ytmgmdnmfalepkaa.Ty
theorem lens {x : List (List Int)} (hK : ∃ w v, tII.K w x v) : x.length ≤ 9223372036854775807 ∧ ∀ i, (x.getD i []).length ≤ 9223372036854775807 := by
  obtain ⟨w, v, A, c, rfl, hc, hr⟩ := hK
  refine ⟨hr.2.1, fun i => ?_⟩
  by_cases hi : i < x.length
  · obtain ⟨ad, e, h⟩ := hr.2.2 (by omega)
    obtain ⟨cs, _, hK, _⟩ := h i (x.getD i []) (by simp [List.getD, List.getElem?_eq_getElem hi])
    obtain ⟨A', c', _, _, hr'⟩ := hK
    exact hr'.2.1
  · simp [List.getD, List.getElem?_eq_none (Nat.le_of_not_lt hi)]
theorem sz_ev (x : List (List Int)) (left : Int) (h0 : 0 ≤ left) (h1 : left ≤ 1048576) (hK : ∃ w v, tII.K w x v) :
    ∃ r, Ev (fun k => laws_szIntSS.f k x left) r ∧ (0 ≤ r → r + ((x.length + totalI x : Nat) : Int) = left) := by
  obtain ⟨hl, hi⟩ := lens hK
  have hb : -9223372036854775808 ≤ left - (x.length : Int) ∧ left - (x.length : Int) ≤ 9223372036854775807 := by omega
  by_cases hneg : left - (x.length : Int) < 0
  · refine ⟨-1, Ev.congr (f := fun _ => some (-1)) (fun k => ?_) (Ev.now _), by omega⟩
    simp only [laws_szIntSS.f]
    rw [wrap_in hb, if_pos hneg]
  have key : ∀ (d i : Nat) (l : Int), i + d = x.length → 0 ≤ l → l ≤ 1048576 → ∃ r, Ev (fun k => laws_szIntSS.l0 k x l (i : Int)) r ∧ (0 ≤ r → r + ((totalI (x.drop i) : Nat) : Int) = l) := by
    intro d
    induction d with
    | zero =>
      intro i l hd l0 l1
      refine ⟨l, Ev.step (f := fun _ => some l) (fun k => ?_) (Ev.now _), fun _ => ?_⟩
      · simp only [laws_szIntSS.l0]
        rw [if_neg (by omega)]
      · rw [List.drop_of_length_le (by omega)]
        simp [totalI]
    | succ d ih =>
      intro i l hd l0 l1
      have hlt : i < x.length := by omega
      have hg : rd_L3 x (i : Int) = x.getD i [] := rfl
      have hli := hi i
      have hb2 : -9223372036854775808 ≤ l - ((x.getD i []).length : Int) ∧ l - ((x.getD i []).length : Int) ≤ 9223372036854775807 := by omega
      have hdr : x.drop i = x.getD i [] :: x.drop (i + 1) := by
        rw [List.drop_eq_getElem_cons hlt]
        simp [List.getD, List.getElem?_eq_getElem hlt]
      by_cases hn : l - ((x.getD i []).length : Int) < 0
      · refine ⟨-1, Ev.step (f := fun _ => some (-1)) (fun k => ?_) (Ev.now _), by omega⟩
        simp only [laws_szIntSS.l0]
        rw [if_pos (by omega), if_pos (by omega), hg]
        simp only [laws_szIntS.f]
        rw [wrap_in hb2, if_pos hn, Option.bind_some, if_pos (by decide)]
      · obtain ⟨r, hr, hq⟩ := ih (i + 1) (l - ((x.getD i []).length : Int)) (by omega) (by omega) (by omega)
        refine ⟨r, Ev.step (fun k => ?_) hr, fun h => ?_⟩
        · simp only [laws_szIntSS.l0]
          rw [if_pos (by omega), if_pos (by omega), hg]
          simp only [laws_szIntS.f]
          rw [wrap_in hb2, if_neg hn, Option.bind_some, if_neg hn, wrap_succ i (by omega)]
        · have := hq h
          rw [hdr]
          simp only [totalI]
          omega
  obtain ⟨r, hr, hq⟩ := key x.length 0 (left - (x.length : Int)) (by omega) (by omega) (by omega)
  refine ⟨r, Ev.congr (fun k => ?_) hr, fun h => ?_⟩
  · simp only [laws_szIntSS.f]
    rw [wrap_in hb, if_neg hneg]
    rfl
  · have := hq h
    rw [List.drop_zero] at this
    omega
theorem sz_pure (x : List (List Int)) (left : Int) (h0 : 0 ≤ left) (h1 : left ≤ 1048576) (hK : ∃ w v, tII.K w x v) :
    ∃ r, (0 ≤ r → 0 ≤ r ∧ r ≤ left ∧ smallII x) ∧ ∀ (w : World) {v : Value}, tII.K w x v → Calls Try.prog 77 #[v, .int .i64 left] w fun e w' => e = .returned (.int .i64 r) ∧ Below w.heap.size w w' := by
  obtain ⟨r, hr, hq⟩ := sz_ev x left h0 h1 hK
  obtain ⟨k, hk⟩ := hr.rounds
  refine ⟨r, fun h => ⟨h, by have := hq h; omega, by show x.length + totalI x ≤ 1048576; have := hq h; omega⟩, fun w v hv => ?_⟩
  obtain ⟨A, c, rfl, hc, hr⟩ := hv
  refine (laws_szIntSS.calls k A c x left r w hr hc hk).mono ?_
  rintro e w' ⟨rfl, h⟩
  exact ⟨rfl, h.below⟩
end Go.Proofs.Ytmgmdnmfalepkaa.HelpII
namespace Go.Proofs.Ytmgmdnmfalepkaa.HelpI
open Go.RowKit Go.Proofs.YtmgmdnmfalepkaaW.PrintWords Go.Proofs.Ytmgmdnmfalepkaa.PKit Go.Proofs.Ytmgmdnmfalepkaa.L Go.Proofs.Ytmgmdnmfalepkaa.Ty
theorem sz_ev (x : List Int) (left : Int) (h0 : 0 ≤ left) (h1 : left ≤ 1048576) (hK : ∃ w v, tI.K w x v) :
    ∃ r, Ev (fun _ => laws_szIntS.f x left) r ∧ (0 ≤ r → r + (x.length : Int) = left) := by
  obtain ⟨w, v, A, c, rfl, hc, hr⟩ := hK
  have hl := hr.2.1
  have hb : -9223372036854775808 ≤ left - (x.length : Int) ∧ left - (x.length : Int) ≤ 9223372036854775807 := by omega
  by_cases hneg : left - (x.length : Int) < 0
  · refine ⟨-1, Ev.congr (f := fun _ => some (-1)) (fun k => ?_) (Ev.now _), by omega⟩
    simp only [laws_szIntS.f]
    rw [wrap_in hb, if_pos hneg]
  · refine ⟨left - (x.length : Int), Ev.congr (f := fun _ => some _) (fun k => ?_) (Ev.now _), by omega⟩
    simp only [laws_szIntS.f]
    rw [wrap_in hb, if_neg hneg]
end Go.Proofs.Ytmgmdnmfalepkaa.HelpI

namespace Go.Proofs.Ytmgmdnmfalepkaa.L
open Go.RowKit Go.Proofs.YtmgmdnmfalepkaaW.PrintWords Go.Proofs.YtmgmdnmfalepkaaW.PrintLast Go.Proofs.YtmgmdnmfalepkaaW.PrintMore
attribute [local go_sem] max2_int min2_int max_two min_two max_three min_three max_four min_four
set_option linter.unusedVariables false
set_option linter.unusedSimpArgs false
def laws_szSegment.f (k : Nat) (a0_0 : Int) (l0_1 : List (List Int)) (l0_2 : List Int) (l0_3 : List (List Int)) (a1 : Int) : Option (Int) := (laws_szByteSS.f k l0_1 a1).bind fun t148 => (if t148 < 0 then (some (-1)) else ((laws_szIntS.f l0_2 t148).bind fun t149 => (if t149 < 0 then (some (-1)) else ((laws_szIntSS.f k l0_3 t149).bind fun t150 => (if t150 < 0 then (some (-1)) else (some t150))))))
set_option maxHeartbeats 8000000 in
set_option maxRecDepth 100000 in
theorem laws_szSegment.calls (k : Nat) (a0_0 : Int) (A0_1 : Option Addr) (c0_1 : Nat) (l0_1 : List (List Int)) (A0_2 : Option Addr) (c0_2 : Nat) (l0_2 : List Int) (A0_3 : Option Addr) (c0_3 : Nat) (l0_3 : List (List Int)) (a1 : Int) (r : Int) (w : World) (hr0_1 : Kd.C (Kd.slice 5 (Kd.int .u8)) w A0_1 l0_1.length l0_1) (hc0_1 : l0_1.length ≤ c0_1) (hr0_2 : Kd.C (Kd.int .i64) w A0_2 l0_2.length l0_2) (hc0_2 : l0_2.length ≤ c0_2) (hr0_3 : Kd.C (Kd.slice 3 (Kd.int .i64)) w A0_3 l0_3.length l0_3) (hc0_3 : l0_3.length ≤ c0_3) (h : laws_szSegment.f k a0_0 l0_1 l0_2 l0_3 a1 = some r) :
    Calls Try.prog 27 #[.agg #[.int .i64 a0_0, .slice A0_1 l0_1.length c0_1, .slice A0_2 l0_2.length c0_2, .slice A0_3 l0_3.length c0_3], .int .i64 a1] w fun e w' => e = .returned (.int .i64 r) ∧ Below w.heap.size w w' := by
  have hu44 := Try.underlying44
  have HR0_1 := Aside0.mk hr0_1
  have HC0_1 := Aside0.mk hc0_1
  clear hr0_1 hc0_1
  have HR0_2 := Aside0.mk hr0_2
  have HC0_2 := Aside0.mk hc0_2
  clear hr0_2 hc0_2
  have HR0_3 := Aside0.mk hr0_3
  have HC0_3 := Aside0.mk hc0_3
  clear hr0_3 hc0_3
  have HB := Aside0.mk (Below.refl w.heap.size w)
  have H : ((laws_szByteSS.f k l0_1 a1).bind fun t148 => (if t148 < 0 then (some (-1)) else ((laws_szIntS.f l0_2 t148).bind fun t149 => (if t149 < 0 then (some (-1)) else ((laws_szIntSS.f k l0_3 t149).bind fun t150 => (if t150 < 0 then (some (-1)) else (some t150))))))) = some r := h
  clear h
  replace H := Option.bind_eq_some_iff.mp H
  obtain ⟨t148, A30, H⟩ := H
  replace H : (if t148 < 0 then (some (-1)) else ((laws_szIntS.f l0_2 t148).bind fun t149 => (if t149 < 0 then (some (-1)) else ((laws_szIntSS.f k l0_3 t149).bind fun t150 => (if t150 < 0 then (some (-1)) else (some t150)))))) = some r := H
  have A3 := Aside0.mk A30
  clear A30
  by_cases c4 : t148 < 0
  · rw [if_pos c4] at H
    have c4b0 : decide (t148 < 0) = true := decide_eq_true c4
    clear c4
    obtain rfl := Option.some.inj H
    go_enter Try.func27, Try.ntmps27
    go_wp2_with (first | ((with_reducible refine gate_dst (N := 2) rfl ?_); refine box_event ?hg (N := 2) ?hd (cs := #[.int .i64 a0_0, .slice A0_1 l0_1.length c0_1, .slice A0_2 l0_2.length c0_2, .slice A0_3 l0_3.length c0_3]) (t := 44) ?hr ?_; (case hd => rfl); (case hg => rfl); (case hr => first | (go_simp; done) | (go_simp; rfl)); intro gb147 hg w5 hbox hb; have n0_ := Aside0.mk (below_step (by repeat (first | (with_reducible first | exact HB.out | apply below_alloc | apply pw_below_drewN | apply below_drew1) | exact HB.out)) hb); have n1_ := Aside0.mk (hbox); have n2_ := Aside0.mk ((by rw [hg]; exact (below_size (by repeat (first | (with_reducible first | exact HB.out | apply below_alloc | apply pw_below_drewN | apply below_drew1) | exact HB.out))) : w.heap.size ≤ gb147)); have n3_ := Aside0.mk ((by rw [hg]; exact (below_size (by repeat (first | (with_reducible first | exact HB.out | apply below_alloc | apply pw_below_drewN | apply below_drew1) | exact HB.out))) : w.heap.size ≤ gb147)); clear HB; have HB := n0_; have BK147 := n1_; have GW147 := n2_; have GE147 := n3_; clear n0_ n1_ n2_ n3_; clear hb hbox hg; have hcz6_0 : w5.cell? ⟨gb147, 0, none⟩ = some (.int .i64 a0_0) := (blk_cell BK147.out 0).trans rfl; have hcz6_1 : w5.cell? ⟨gb147, 1, none⟩ = some (.slice A0_1 l0_1.length c0_1) := (blk_cell BK147.out 1).trans rfl; have hcz6_2 : w5.cell? ⟨gb147, 2, none⟩ = some (.slice A0_2 l0_2.length c0_2) := (blk_cell BK147.out 2).trans rfl; have hcz6_3 : w5.cell? ⟨gb147, 3, none⟩ = some (.slice A0_3 l0_3.length c0_3) := (blk_cell BK147.out 3).trans rfl; have hfz6_0 := blk_frozen BK147.out 0; have hfz6_1 := blk_frozen BK147.out 1; have hfz6_2 := blk_frozen BK147.out 2; have hfz6_3 := blk_frozen BK147.out 3) | ((with_reducible refine gate_callee (f := 37) rfl ?_); refine goesL_ (some 8) rfl rfl Try.func37 (by kernel_rfl) rfl #[.slice A0_1 l0_1.length c0_1, .int .i64 a1] rfl (by (try simp only [List.map_toArray, List.map_cons, List.map_nil]); first | done | rfl | (simp only [List.length_drop, List.length_take]; rfl)) ?_; (with_reducible refine (laws_szByteSS.calls k _ _ l0_1 a1 t148 _ ?side1 ?side2 A3.out).mono ?_); (case side1 => repeat (first | exact (Kd.C_below HR0_1.out HB.out) | (with_reducible refine Kd.C_alloc ?_ _) | (with_reducible refine Kd.C_drewN ?_ _) | (with_reducible refine Kd.C_drew ?_))); (case side2 => exact HC0_1.out); rintro e w' ⟨rfl, ⟨nd, rfl⟩⟩; refine ⟨_, rfl, ?_⟩))
    go_ret
    exact ⟨by first | rfl | (simp [errW_none, errW_some] <;> rfl) | (simp [*, errW_none, errW_some] <;> rfl), by repeat (first | (with_reducible first | exact HB.out | apply below_alloc | apply pw_below_drewN | apply below_drew1 | refine below_set ?_ GE147.out) | exact HB.out)⟩
  · rw [if_neg c4] at H
    have c4b0 : decide (t148 < 0) = false := decide_eq_false c4
    clear c4
    replace H := Option.bind_eq_some_iff.mp H
    obtain ⟨t149, A70, H⟩ := H
    replace H : (if t149 < 0 then (some (-1)) else ((laws_szIntSS.f k l0_3 t149).bind fun t150 => (if t150 < 0 then (some (-1)) else (some t150)))) = some r := H
    have A7 := Aside0.mk A70
    clear A70
    by_cases c8 : t149 < 0
    · rw [if_pos c8] at H
      have c8b0 : decide (t149 < 0) = true := decide_eq_true c8
      clear c8
      obtain rfl := Option.some.inj H
      go_enter Try.func27, Try.ntmps27
      go_wp2_with (first | ((with_reducible refine gate_dst (N := 2) rfl ?_); refine box_event ?hg (N := 2) ?hd (cs := #[.int .i64 a0_0, .slice A0_1 l0_1.length c0_1, .slice A0_2 l0_2.length c0_2, .slice A0_3 l0_3.length c0_3]) (t := 44) ?hr ?_; (case hd => rfl); (case hg => rfl); (case hr => first | (go_simp; done) | (go_simp; rfl)); intro gb147 hg w9 hbox hb; have n0_ := Aside0.mk (below_step (by repeat (first | (with_reducible first | exact HB.out | apply below_alloc | apply pw_below_drewN | apply below_drew1) | exact HB.out)) hb); have n1_ := Aside0.mk (hbox); have n2_ := Aside0.mk ((by rw [hg]; exact (below_size (by repeat (first | (with_reducible first | exact HB.out | apply below_alloc | apply pw_below_drewN | apply below_drew1) | exact HB.out))) : w.heap.size ≤ gb147)); have n3_ := Aside0.mk ((by rw [hg]; exact (below_size (by repeat (first | (with_reducible first | exact HB.out | apply below_alloc | apply pw_below_drewN | apply below_drew1) | exact HB.out))) : w.heap.size ≤ gb147)); clear HB; have HB := n0_; have BK147 := n1_; have GW147 := n2_; have GE147 := n3_; clear n0_ n1_ n2_ n3_; clear hb hbox hg; have hcz10_0 : w9.cell? ⟨gb147, 0, none⟩ = some (.int .i64 a0_0) := (blk_cell BK147.out 0).trans rfl; have hcz10_1 : w9.cell? ⟨gb147, 1, none⟩ = some (.slice A0_1 l0_1.length c0_1) := (blk_cell BK147.out 1).trans rfl; have hcz10_2 : w9.cell? ⟨gb147, 2, none⟩ = some (.slice A0_2 l0_2.length c0_2) := (blk_cell BK147.out 2).trans rfl; have hcz10_3 : w9.cell? ⟨gb147, 3, none⟩ = some (.slice A0_3 l0_3.length c0_3) := (blk_cell BK147.out 3).trans rfl; have hfz10_0 := blk_frozen BK147.out 0; have hfz10_1 := blk_frozen BK147.out 1; have hfz10_2 := blk_frozen BK147.out 2; have hfz10_3 := blk_frozen BK147.out 3) | ((with_reducible refine gate_callee (f := 37) rfl ?_); refine goesL_ (some 8) rfl rfl Try.func37 (by kernel_rfl) rfl #[.slice A0_1 l0_1.length c0_1, .int .i64 a1] rfl (by (try simp only [List.map_toArray, List.map_cons, List.map_nil]); first | done | rfl | (simp only [List.length_drop, List.length_take]; rfl)) ?_; (with_reducible refine (laws_szByteSS.calls k _ _ l0_1 a1 t148 _ ?side1 ?side2 A3.out).mono ?_); (case side1 => repeat (first | exact (Kd.C_below HR0_1.out HB.out) | (with_reducible refine Kd.C_alloc ?_ _) | (with_reducible refine Kd.C_drewN ?_ _) | (with_reducible refine Kd.C_drew ?_))); (case side2 => exact HC0_1.out); rintro e w' ⟨rfl, ⟨nd, rfl⟩⟩; refine ⟨_, rfl, ?_⟩) | ((with_reducible refine gate_callee (f := 61) rfl ?_); refine goesL_ (some 14) rfl rfl Try.func61 (by kernel_rfl) rfl #[.slice A0_2 l0_2.length c0_2, .int .i64 t148] rfl (by (try simp only [List.map_toArray, List.map_cons, List.map_nil]); first | done | rfl | (simp only [List.length_drop, List.length_take]; rfl)) ?_; (with_reducible refine (laws_szIntS.calls _ _ l0_2 t148 t149 _ ?side1 ?side2 A7.out).mono ?_); (case side1 => repeat (first | exact (Kd.C_below HR0_2.out (by repeat (first | (with_reducible first | exact HB.out | apply below_alloc | apply pw_below_drewN | apply below_drew1 | refine below_set ?_ GE147.out) | exact HB.out))) | (with_reducible refine Kd.C_alloc ?_ _) | (with_reducible refine Kd.C_drewN ?_ _) | (with_reducible refine Kd.C_drew ?_))); (case side2 => exact HC0_2.out); rintro e w' ⟨rfl, ⟨nd, rfl⟩⟩; refine ⟨_, rfl, ?_⟩))
      go_ret
      exact ⟨by first | rfl | (simp [errW_none, errW_some] <;> rfl) | (simp [*, errW_none, errW_some] <;> rfl), by repeat (first | (with_reducible first | exact HB.out | apply below_alloc | apply pw_below_drewN | apply below_drew1 | refine below_set ?_ GE147.out) | exact HB.out)⟩
    · rw [if_neg c8] at H
      have c8b0 : decide (t149 < 0) = false := decide_eq_false c8
      clear c8
      replace H := Option.bind_eq_some_iff.mp H
      obtain ⟨t150, A110, H⟩ := H
      replace H : (if t150 < 0 then (some (-1)) else (some t150)) = some r := H
      have A11 := Aside0.mk A110
      clear A110
      by_cases c12 : t150 < 0
      · rw [if_pos c12] at H
        have c12b0 : decide (t150 < 0) = true := decide_eq_true c12
        clear c12
        obtain rfl := Option.some.inj H
        go_enter Try.func27, Try.ntmps27
        go_wp2_with (first | ((with_reducible refine gate_dst (N := 2) rfl ?_); refine box_event ?hg (N := 2) ?hd (cs := #[.int .i64 a0_0, .slice A0_1 l0_1.length c0_1, .slice A0_2 l0_2.length c0_2, .slice A0_3 l0_3.length c0_3]) (t := 44) ?hr ?_; (case hd => rfl); (case hg => rfl); (case hr => first | (go_simp; done) | (go_simp; rfl)); intro gb147 hg w13 hbox hb; have n0_ := Aside0.mk (below_step (by repeat (first | (with_reducible first | exact HB.out | apply below_alloc | apply pw_below_drewN | apply below_drew1) | exact HB.out)) hb); have n1_ := Aside0.mk (hbox); have n2_ := Aside0.mk ((by rw [hg]; exact (below_size (by repeat (first | (with_reducible first | exact HB.out | apply below_alloc | apply pw_below_drewN | apply below_drew1) | exact HB.out))) : w.heap.size ≤ gb147)); have n3_ := Aside0.mk ((by rw [hg]; exact (below_size (by repeat (first | (with_reducible first | exact HB.out | apply below_alloc | apply pw_below_drewN | apply below_drew1) | exact HB.out))) : w.heap.size ≤ gb147)); clear HB; have HB := n0_; have BK147 := n1_; have GW147 := n2_; have GE147 := n3_; clear n0_ n1_ n2_ n3_; clear hb hbox hg; have hcz14_0 : w13.cell? ⟨gb147, 0, none⟩ = some (.int .i64 a0_0) := (blk_cell BK147.out 0).trans rfl; have hcz14_1 : w13.cell? ⟨gb147, 1, none⟩ = some (.slice A0_1 l0_1.length c0_1) := (blk_cell BK147.out 1).trans rfl; have hcz14_2 : w13.cell? ⟨gb147, 2, none⟩ = some (.slice A0_2 l0_2.length c0_2) := (blk_cell BK147.out 2).trans rfl; have hcz14_3 : w13.cell? ⟨gb147, 3, none⟩ = some (.slice A0_3 l0_3.length c0_3) := (blk_cell BK147.out 3).trans rfl; have hfz14_0 := blk_frozen BK147.out 0; have hfz14_1 := blk_frozen BK147.out 1; have hfz14_2 := blk_frozen BK147.out 2; have hfz14_3 := blk_frozen BK147.out 3) | ((with_reducible refine gate_callee (f := 37) rfl ?_); refine goesL_ (some 8) rfl rfl Try.func37 (by kernel_rfl) rfl #[.slice A0_1 l0_1.length c0_1, .int .i64 a1] rfl (by (try simp only [List.map_toArray, List.map_cons, List.map_nil]); first | done | rfl | (simp only [List.length_drop, List.length_take]; rfl)) ?_; (with_reducible refine (laws_szByteSS.calls k _ _ l0_1 a1 t148 _ ?side1 ?side2 A3.out).mono ?_); (case side1 => repeat (first | exact (Kd.C_below HR0_1.out HB.out) | (with_reducible refine Kd.C_alloc ?_ _) | (with_reducible refine Kd.C_drewN ?_ _) | (with_reducible refine Kd.C_drew ?_))); (case side2 => exact HC0_1.out); rintro e w' ⟨rfl, ⟨nd, rfl⟩⟩; refine ⟨_, rfl, ?_⟩) | ((with_reducible refine gate_callee (f := 61) rfl ?_); refine goesL_ (some 14) rfl rfl Try.func61 (by kernel_rfl) rfl #[.slice A0_2 l0_2.length c0_2, .int .i64 t148] rfl (by (try simp only [List.map_toArray, List.map_cons, List.map_nil]); first | done | rfl | (simp only [List.length_drop, List.length_take]; rfl)) ?_; (with_reducible refine (laws_szIntS.calls _ _ l0_2 t148 t149 _ ?side1 ?side2 A7.out).mono ?_); (case side1 => repeat (first | exact (Kd.C_below HR0_2.out (by repeat (first | (with_reducible first | exact HB.out | apply below_alloc | apply pw_below_drewN | apply below_drew1 | refine below_set ?_ GE147.out) | exact HB.out))) | (with_reducible refine Kd.C_alloc ?_ _) | (with_reducible refine Kd.C_drewN ?_ _) | (with_reducible refine Kd.C_drew ?_))); (case side2 => exact HC0_2.out); rintro e w' ⟨rfl, ⟨nd, rfl⟩⟩; refine ⟨_, rfl, ?_⟩) | ((with_reducible refine gate_callee (f := 77) rfl ?_); refine goesL_ (some 20) rfl rfl Try.func77 (by kernel_rfl) rfl #[.slice A0_3 l0_3.length c0_3, .int .i64 t149] rfl (by (try simp only [List.map_toArray, List.map_cons, List.map_nil]); first | done | rfl | (simp only [List.length_drop, List.length_take]; rfl)) ?_; (with_reducible refine (laws_szIntSS.calls k _ _ l0_3 t149 t150 _ ?side1 ?side2 A11.out).mono ?_); (case side1 => repeat (first | exact (Kd.C_below HR0_3.out (by repeat (first | (with_reducible first | exact HB.out | apply below_alloc | apply pw_below_drewN | apply below_drew1 | refine below_set ?_ GE147.out) | exact HB.out))) | (with_reducible refine Kd.C_alloc ?_ _) | (with_reducible refine Kd.C_drewN ?_ _) | (with_reducible refine Kd.C_drew ?_))); (case side2 => exact HC0_3.out); rintro e w' ⟨rfl, ⟨nd, rfl⟩⟩; refine ⟨_, rfl, ?_⟩))
        go_ret
        exact ⟨by first | rfl | (simp [errW_none, errW_some] <;> rfl) | (simp [*, errW_none, errW_some] <;> rfl), by repeat (first | (with_reducible first | exact HB.out | apply below_alloc | apply pw_below_drewN | apply below_drew1 | refine below_set ?_ GE147.out) | exact HB.out)⟩
      · rw [if_neg c12] at H
        have c12b0 : decide (t150 < 0) = false := decide_eq_false c12
        clear c12
        obtain rfl := Option.some.inj H
        go_enter Try.func27, Try.ntmps27
        go_wp2_with (first | ((with_reducible refine gate_dst (N := 2) rfl ?_); refine box_event ?hg (N := 2) ?hd (cs := #[.int .i64 a0_0, .slice A0_1 l0_1.length c0_1, .slice A0_2 l0_2.length c0_2, .slice A0_3 l0_3.length c0_3]) (t := 44) ?hr ?_; (case hd => rfl); (case hg => rfl); (case hr => first | (go_simp; done) | (go_simp; rfl)); intro gb147 hg w15 hbox hb; have n0_ := Aside0.mk (below_step (by repeat (first | (with_reducible first | exact HB.out | apply below_alloc | apply pw_below_drewN | apply below_drew1) | exact HB.out)) hb); have n1_ := Aside0.mk (hbox); have n2_ := Aside0.mk ((by rw [hg]; exact (below_size (by repeat (first | (with_reducible first | exact HB.out | apply below_alloc | apply pw_below_drewN | apply below_drew1) | exact HB.out))) : w.heap.size ≤ gb147)); have n3_ := Aside0.mk ((by rw [hg]; exact (below_size (by repeat (first | (with_reducible first | exact HB.out | apply below_alloc | apply pw_below_drewN | apply below_drew1) | exact HB.out))) : w.heap.size ≤ gb147)); clear HB; have HB := n0_; have BK147 := n1_; have GW147 := n2_; have GE147 := n3_; clear n0_ n1_ n2_ n3_; clear hb hbox hg; have hcz16_0 : w15.cell? ⟨gb147, 0, none⟩ = some (.int .i64 a0_0) := (blk_cell BK147.out 0).trans rfl; have hcz16_1 : w15.cell? ⟨gb147, 1, none⟩ = some (.slice A0_1 l0_1.length c0_1) := (blk_cell BK147.out 1).trans rfl; have hcz16_2 : w15.cell? ⟨gb147, 2, none⟩ = some (.slice A0_2 l0_2.length c0_2) := (blk_cell BK147.out 2).trans rfl; have hcz16_3 : w15.cell? ⟨gb147, 3, none⟩ = some (.slice A0_3 l0_3.length c0_3) := (blk_cell BK147.out 3).trans rfl; have hfz16_0 := blk_frozen BK147.out 0; have hfz16_1 := blk_frozen BK147.out 1; have hfz16_2 := blk_frozen BK147.out 2; have hfz16_3 := blk_frozen BK147.out 3) | ((with_reducible refine gate_callee (f := 37) rfl ?_); refine goesL_ (some 8) rfl rfl Try.func37 (by kernel_rfl) rfl #[.slice A0_1 l0_1.length c0_1, .int .i64 a1] rfl (by (try simp only [List.map_toArray, List.map_cons, List.map_nil]); first | done | rfl | (simp only [List.length_drop, List.length_take]; rfl)) ?_; (with_reducible refine (laws_szByteSS.calls k _ _ l0_1 a1 t148 _ ?side1 ?side2 A3.out).mono ?_); (case side1 => repeat (first | exact (Kd.C_below HR0_1.out HB.out) | (with_reducible refine Kd.C_alloc ?_ _) | (with_reducible refine Kd.C_drewN ?_ _) | (with_reducible refine Kd.C_drew ?_))); (case side2 => exact HC0_1.out); rintro e w' ⟨rfl, ⟨nd, rfl⟩⟩; refine ⟨_, rfl, ?_⟩) | ((with_reducible refine gate_callee (f := 61) rfl ?_); refine goesL_ (some 14) rfl rfl Try.func61 (by kernel_rfl) rfl #[.slice A0_2 l0_2.length c0_2, .int .i64 t148] rfl (by (try simp only [List.map_toArray, List.map_cons, List.map_nil]); first | done | rfl | (simp only [List.length_drop, List.length_take]; rfl)) ?_; (with_reducible refine (laws_szIntS.calls _ _ l0_2 t148 t149 _ ?side1 ?side2 A7.out).mono ?_); (case side1 => repeat (first | exact (Kd.C_below HR0_2.out (by repeat (first | (with_reducible first | exact HB.out | apply below_alloc | apply pw_below_drewN | apply below_drew1 | refine below_set ?_ GE147.out) | exact HB.out))) | (with_reducible refine Kd.C_alloc ?_ _) | (with_reducible refine Kd.C_drewN ?_ _) | (with_reducible refine Kd.C_drew ?_))); (case side2 => exact HC0_2.out); rintro e w' ⟨rfl, ⟨nd, rfl⟩⟩; refine ⟨_, rfl, ?_⟩) | ((with_reducible refine gate_callee (f := 77) rfl ?_); refine goesL_ (some 20) rfl rfl Try.func77 (by kernel_rfl) rfl #[.slice A0_3 l0_3.length c0_3, .int .i64 t149] rfl (by (try simp only [List.map_toArray, List.map_cons, List.map_nil]); first | done | rfl | (simp only [List.length_drop, List.length_take]; rfl)) ?_; (with_reducible refine (laws_szIntSS.calls k _ _ l0_3 t149 t150 _ ?side1 ?side2 A11.out).mono ?_); (case side1 => repeat (first | exact (Kd.C_below HR0_3.out (by repeat (first | (with_reducible first | exact HB.out | apply below_alloc | apply pw_below_drewN | apply below_drew1 | refine below_set ?_ GE147.out) | exact HB.out))) | (with_reducible refine Kd.C_alloc ?_ _) | (with_reducible refine Kd.C_drewN ?_ _) | (with_reducible refine Kd.C_drew ?_))); (case side2 => exact HC0_3.out); rintro e w' ⟨rfl, ⟨nd, rfl⟩⟩; refine ⟨_, rfl, ?_⟩))
        go_ret
        exact ⟨by first | rfl | (simp [errW_none, errW_some] <;> rfl) | (simp [*, errW_none, errW_some] <;> rfl), by repeat (first | (with_reducible first | exact HB.out | apply below_alloc | apply pw_below_drewN | apply below_drew1 | refine below_set ?_ GE147.out) | exact HB.out)⟩
end Go.Proofs.Ytmgmdnmfalepkaa.L
