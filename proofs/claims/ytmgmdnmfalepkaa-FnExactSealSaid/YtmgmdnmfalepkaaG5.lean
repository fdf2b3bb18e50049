/- Parts of the proof (see the row's own text): HelpB, HelpBB, Lin, HelpI, HelpII, Sz, Lszt. -/
import Derived.Test.YtmgmdnmfalepkaaG2
import Derived.Test.YtmgmdnmfalepkaaG4
namespace Go.Proofs.Ytmgmdnmfalepkaa.HelpB
open Go.RowKit Go.Proofs.YtmgmdnmfalepkaaW.PrintWords Go.Proofs.YtmgmdnmfalepkaaW.PrintMore Go.Proofs.Ytmgmdnmfalepkaa.Kit Go.Proofs.Ytmgmdnmfalepkaa.PKit Go.Proofs.Ytmgmdnmfalepkaa.Ty
open Go.Proofs.Ytmgmdnmfalepkaa.L
set_option linter.unusedVariables false
abbrev tB : Ty (List Int) := Ty.row (Kd.int .u8) 5
def markB (a : Int) : List Int → List Int
  | [] => []
  | _ :: r => (a % 256) :: markB (a + 1) r
abbrev cntB (x : List Int) : Nat := x.length
abbrev bdB (x : List Int) : Prop := x.length ≤ 1099511627776
theorem to_ev (l : List Int) (hl : l.length ≤ 35184372088832) : Ev (fun k => laws_toByteS.f k l) l := by
  have key : ∀ (d i : Nat) (out : List Int), i + d = l.length → out.length = l.length → out.take i = l.take i → Ev (fun k => laws_toByteS.l0 k l out i) l := by
    intro d
    induction d with
    | zero =>
      intro i out hd ho ht
      rw [List.take_of_length_le (by omega), List.take_of_length_le (by omega)] at ht
      subst ht
      refine Ev.step (f := fun _ => some out) (fun k => ?_) (Ev.now _)
      simp only [laws_toByteS.l0]
      rw [if_neg (by omega)]
    | succ d ih =>
      intro i out hd ho ht
      refine Ev.step (f := fun k => laws_toByteS.l0 k l (out.set i (rd l i)) ((i + 1 : Nat) : Int)) (fun k => ?_) (ih (i + 1) _ (by omega) (by simp [ho]) (set_take l out i _ (by omega) ho ht ?_))
      · simp only [laws_toByteS.l0]
        rw [if_pos (by omega), if_pos (by omega), if_pos (by omega), wrap_succ i (by omega), Int.toNat_natCast]
      · rw [rd_get l i (by omega), List.getElem?_eq_getElem (by omega)]
  refine Ev.congr (fun k => ?_) (key l.length 0 (List.replicate l.length 0) (by omega) (by simp) (by simp))
  simp only [laws_toByteS.f]
  rw [if_pos (by omega), if_pos (by omega), Int.toNat_natCast]
  rfl
theorem eq_ev (l : List Int) (hl : l.length ≤ 35184372088832) : Ev (fun k => laws_eqByteS.f k l l) true := by
  have key : ∀ (d i : Nat), i + d = l.length → Ev (fun k => laws_eqByteS.l0 k l l i) true := by
    intro d
    induction d with
    | zero =>
      intro i hd
      refine Ev.step (f := fun _ => some true) (fun k => ?_) (Ev.now _)
      simp only [laws_eqByteS.l0]
      rw [if_neg (by omega)]
    | succ d ih =>
      intro i hd
      refine Ev.step (f := fun k => laws_eqByteS.l0 k l l ((i + 1 : Nat) : Int)) (fun k => ?_) (ih (i + 1) (by omega))
      simp only [laws_eqByteS.l0]
      rw [if_pos (by omega), if_pos (by omega), if_pos (by omega), if_pos trivial, wrap_succ i (by omega)]
  refine Ev.congr (fun k => ?_) (key l.length 0 (by omega))
  simp only [laws_eqByteS.f]
  rw [if_pos trivial]
  rfl
theorem mark_ev (l : List Int) (a : Int) (a0 : 0 ≤ a) (a1 : a + l.length ≤ 1099511627776) : Ev (fun k => laws_markByteS.f k l a) (a + l.length, markB a l) := by
  have key : ∀ (r : List Int) (p : List Int) (b : Int), 0 ≤ b → b + r.length ≤ 1099511627776 → p.length + r.length ≤ 1099511627776 → Ev (fun k => laws_markByteS.l0 k (p ++ r) b (p.length : Int)) (b + r.length, p ++ markB b r) := by
    intro r
    induction r with
    | nil =>
      intro p b b0 b1 hp
      refine Ev.step (f := fun _ => some (b, p)) (fun k => ?_) ?_
      · simp only [laws_markByteS.l0]
        rw [if_neg (by simp), List.append_nil]
      · have e : (b + ((([] : List Int).length : Nat) : Int), p ++ markB b []) = (b, p) := by simp [markB]
        rw [e]
        exact Ev.now _
    | cons x r ih =>
      intro p b b0 b1 hp
      simp only [List.length_cons] at b1 hp
      have h := ih (p ++ [b % 256]) (b + 1) (by omega) (by omega) (by simp; omega)
      have e : (b + 1 + (r.length : Int), p ++ [b % 256] ++ markB (b + 1) r) = (b + (((x :: r).length : Nat) : Int), p ++ markB b (x :: r)) := by
        simp only [markB, List.length_cons, List.append_assoc, List.singleton_append]
        congr 1
        omega
      rw [e] at h
      refine Ev.step (fun k => ?_) h
      simp only [laws_markByteS.l0]
      rw [if_pos (by simp; omega), if_pos (by omega), Int.toNat_natCast, wrap_in (x := b + 1) (by omega), wrap_succ _ (by omega)]
      have e2 : (p ++ x :: r).set p.length (b % 256) = p ++ [b % 256] ++ r := by
        rw [List.set_append_right _ _ (Nat.le_refl _), Nat.sub_self]
        simp
      rw [e2]
      simp only [List.length_append, List.length_cons, List.length_nil]
  have h := key l [] a a0 a1 (by simp; omega)
  exact Ev.congr (fun k => by simp only [laws_markByteS.f]; rfl) h
theorem held_ev (l : List Int) (a : Int) (a0 : 0 ≤ a) (a1 : a + l.length ≤ 1099511627776) : Ev (fun k => laws_heldByteS.f k (markB a l) a) (a + l.length) := by
  have key : ∀ (r : List Int) (p : List Int) (b : Int), 0 ≤ b → b + r.length ≤ 1099511627776 → p.length + r.length ≤ 1099511627776 → Ev (fun k => laws_heldByteS.l0 k (p ++ markB b r) b (p.length : Int)) (b + r.length) := by
    intro r
    induction r with
    | nil =>
      intro p b b0 b1 hp
      have e : (b + ((([] : List Int).length : Nat) : Int)) = b := by simp
      rw [e]
      refine Ev.step (f := fun _ => some b) (fun k => ?_) (Ev.now _)
      simp only [laws_heldByteS.l0]
      rw [if_neg (by simp [markB])]
    | cons x r ih =>
      intro p b b0 b1 hp
      simp only [List.length_cons] at b1 hp
      have h := ih (p ++ [b % 256]) (b + 1) (by omega) (by omega) (by simp; omega)
      have e : (b + 1 + (r.length : Int)) = (b + (((x :: r).length : Nat) : Int)) := by simp only [List.length_cons]; omega
      rw [e, List.append_assoc] at h
      refine Ev.step (fun k => ?_) h
      simp only [laws_heldByteS.l0]
      have hg : rd (p ++ markB b (x :: r)) (p.length : Int) = b % 256 := by simp [rd, markB]
      rw [if_pos (by simp [markB]; omega), if_pos (by omega), hg, if_pos rfl, wrap_in (x := b + 1) (by omega), wrap_succ _ (by omega)]
      simp only [List.length_append, List.length_cons, List.length_nil]
      rfl
  have h := key l [] a a0 a1 (by simp; omega)
  exact Ev.congr (fun k => by simp only [laws_heldByteS.f]; rfl) h
theorem mark_calls (x : List Int) (v : Value) (ok : Nat → Prop) (a : Int) (w0 w : World) (hB : Below w0.heap.size w0 w) (h : tB.M w w0.heap.size ok x v) (a0 : 0 ≤ a) (a1 : a + cntB x ≤ 1099511627776) (_hl : bdB x) :
    Calls Try.prog 24 #[v, .int .i64 a] w fun e w' => e = .returned (.int .i64 (a + cntB x)) ∧ tB.M w' w0.heap.size ok (markB a x) v ∧ Below w0.heap.size w0 w' ∧ Kept w w' ok := by
  obtain ⟨k, hk⟩ := (mark_ev x a a0 a1).rounds
  have h : Kd.R (Kd.int .u8) 5 w w0.heap.size ok v x := h
  refine (laws_markByteS.calls k ok v x a _ _ w0 w hB h hk).mono ?_
  rintro e w' ⟨rfl, h1, h2, h3⟩
  refine ⟨rfl, ?_, h2, h3⟩
  exact Kd.R_mono (Kd.R_tight rfl h1) (fun k hk => h.1 k hk.symm)
end Go.Proofs.Ytmgmdnmfalepkaa.HelpB

namespace Go.Proofs.Ytmgmdnmfalepkaa.HelpBB
open Go.RowKit Go.Proofs.YtmgmdnmfalepkaaW.PrintWords Go.Proofs.YtmgmdnmfalepkaaW.PrintMore Go.Proofs.Ytmgmdnmfalepkaa.Kit Go.Proofs.Ytmgmdnmfalepkaa.PKit Go.Proofs.Ytmgmdnmfalepkaa.Ty Go.Proofs.Ytmgmdnmfalepkaa.HelpB
open Go.Proofs.Ytmgmdnmfalepkaa.L
set_option linter.unusedVariables false
abbrev kB := Kd.slice 5 (Kd.int .u8)
abbrev tBB : Ty (List (List Int)) := Ty.rows kB 33
def totalB : List (List Int) → Nat
  | [] => 0
  | x :: r => x.length + totalB r
abbrev cntBB (x : List (List Int)) : Nat := totalB x
abbrev bdBB (x : List (List Int)) : Prop := x.length ≤ 1099511627776 ∧ totalB x ≤ 1099511627776
abbrev smallBB (x : List (List Int)) : Prop := x.length + totalB x ≤ 1048576
theorem bd_small {x : List (List Int)} (h : smallBB x) : bdBB x := ⟨by have : x.length + totalB x ≤ 1048576 := h; omega, by have : x.length + totalB x ≤ 1048576 := h; omega⟩
def markBB (a : Int) : List (List Int) → List (List Int)
  | [] => []
  | x :: r => markB a x :: markBB (a + x.length) r
def part (a : Int) (xs : List (List Int)) (i : Nat) : List (List Int) := markBB a (xs.take i) ++ xs.drop i
theorem markBB_len (xs : List (List Int)) : ∀ a, (markBB a xs).length = xs.length := by
  induction xs with
  | nil => intro a; rfl
  | cons x r ih => intro a; simp [markBB, ih]
theorem mark_snoc (xs : List (List Int)) (x : List Int) : ∀ a, markBB a (xs ++ [x]) = markBB a xs ++ [markB (a + totalB xs) x] := by
  induction xs with
  | nil => intro a; simp [markBB, totalB]
  | cons y r ih =>
    intro a
    simp only [List.cons_append, markBB, ih, totalB]
    congr 4
    omega
theorem total_snoc (xs : List (List Int)) (x : List Int) : totalB (xs ++ [x]) = totalB xs + x.length := by
  induction xs with
  | nil => simp [totalB]
  | cons y r ih => simp only [List.cons_append, totalB, ih]; omega
theorem total_append (xs ys : List (List Int)) : totalB (xs ++ ys) = totalB xs + totalB ys := by
  induction xs with
  | nil => simp [totalB]
  | cons y r ih => simp only [List.cons_append, totalB, ih]; omega
theorem take_snoc (xs : List (List Int)) (i : Nat) (hi : i < xs.length) : xs.take (i + 1) = xs.take i ++ [xs.getD i []] := by
  rw [List.take_succ_eq_append_getElem hi]
  simp [List.getD, List.getElem?_eq_getElem hi]
theorem part_get (a : Int) (xs : List (List Int)) (i : Nat) (hi : i < xs.length) : (part a xs i).getD i [] = xs.getD i [] := by
  unfold part
  have hl : (markBB a (xs.take i)).length = i := by rw [markBB_len, List.length_take]; omega
  simp only [List.getD]
  rw [List.getElem?_append_right (by omega), hl, Nat.sub_self, List.getElem?_drop]
  rfl
theorem part_set (a : Int) (xs : List (List Int)) (i : Nat) (hi : i < xs.length) : (part a xs i).set i (markB (a + totalB (xs.take i)) (xs.getD i [])) = part a xs (i + 1) := by
  unfold part
  have hl : (markBB a (xs.take i)).length = i := by rw [markBB_len, List.length_take]; omega
  rw [List.set_append_right _ _ (by omega), hl, Nat.sub_self, take_snoc xs i hi, mark_snoc, List.append_assoc]
  have hd : xs.drop i = xs.getD i [] :: xs.drop (i + 1) := by
    rw [List.drop_eq_getElem_cons hi]
    simp [List.getD, List.getElem?_eq_getElem hi]
  rw [hd]
  rfl
theorem total_take (xs : List (List Int)) (i : Nat) : totalB (xs.take i) ≤ totalB xs := by
  induction xs generalizing i with
  | nil => simp [totalB]
  | cons x r ih =>
    cases i with
    | zero => simp [totalB]
    | succ i => simp only [List.take_succ_cons, totalB]; have := ih i; omega
theorem total_mem {xs : List (List Int)} {x : List Int} (h : x ∈ xs) : x.length ≤ totalB xs := by
  induction xs with
  | nil => cases h
  | cons y r ih =>
    simp only [totalB]
    rcases List.mem_cons.1 h with e | h
    · subst e; omega
    · have := ih h; omega
theorem rdL_mem (xs : List (List Int)) (i : Nat) (h : i < xs.length) : rd_L1 xs (i : Int) ∈ xs := by
  have e : rd_L1 xs (i : Int) = xs[i] := by simp [rd_L1, List.getD, List.getElem?_eq_getElem h]
  rw [e]
  exact List.getElem_mem _
theorem to_ev (l : List (List Int)) (hl : l.length ≤ 11728124029610) (hx : totalB l ≤ 35184372088832) : Ev (fun k => laws_toByteSS.f k l) l := by
  have key : ∀ (d i : Nat) (out : List (List Int)), i + d = l.length → out.length = l.length → out.take i = l.take i → Ev (fun k => laws_toByteSS.l0 k l out i) l := by
    intro d
    induction d with
    | zero =>
      intro i out hd ho ht
      rw [List.take_of_length_le (by omega), List.take_of_length_le (by omega)] at ht
      subst ht
      refine Ev.step (f := fun _ => some out) (fun k => ?_) (Ev.now _)
      simp only [laws_toByteSS.l0]
      rw [if_neg (by omega)]
    | succ d ih =>
      intro i out hd ho ht
      have hm := rdL_mem l i (by omega)
      obtain ⟨K1, g1⟩ := HelpB.to_ev (rd_L1 l (i : Int)) (by have := total_mem hm; omega)
      obtain ⟨K2, g2⟩ := ih (i + 1) (out.set i (rd_L1 l (i : Int))) (by omega) (by simp [ho]) (set_take l out i _ (by omega) ho ht (by simp [rd_L1, List.getD, List.getElem?_eq_getElem (show i < l.length by omega)]))
      refine ⟨K1 + K2 + 1, fun n hn => ?_⟩
      obtain ⟨n, rfl⟩ : ∃ m, n = m + 1 := ⟨n - 1, by omega⟩
      have g1' := g1 n (by omega)
      have g2' := g2 n (by omega)
      simp only at g1' g2'
      simp only [laws_toByteSS.l0]
      rw [if_pos (by omega), if_pos (by omega), g1', Option.bind_some, if_pos (by omega), wrap_succ i (by omega), Int.toNat_natCast, g2']
  refine Ev.congr (fun k => ?_) (key l.length 0 (List.replicate l.length []) (by omega) (by simp) (by simp))
  simp only [laws_toByteSS.f]
  rw [if_pos (by omega), if_pos (by omega), Int.toNat_natCast]
  rfl
theorem eq_ev (xs : List (List Int)) (hl : xs.length ≤ 1099511627776) (ht : totalB xs ≤ 35184372088832) : Ev (fun k => laws_eqByteSS.f k xs xs) true := by
  have key : ∀ (d i : Nat), i + d = xs.length → Ev (fun k => laws_eqByteSS.l0 k xs xs i) true := by
    intro d
    induction d with
    | zero =>
      intro i hd
      refine Ev.step (f := fun _ => some true) (fun k => ?_) (Ev.now _)
      simp only [laws_eqByteSS.l0]
      rw [if_neg (by omega)]
    | succ d ih =>
      intro i hd
      obtain ⟨K1, g1⟩ := HelpB.eq_ev (rd_L1 xs (i : Int)) (by have := total_mem (rdL_mem xs i (by omega)); omega)
      obtain ⟨K2, g2⟩ := ih (i + 1) (by omega)
      refine ⟨K1 + K2 + 1, fun n hn => ?_⟩
      obtain ⟨n, rfl⟩ : ∃ m, n = m + 1 := ⟨n - 1, by omega⟩
      have g1' := g1 n (by omega)
      have g2' := g2 n (by omega)
      simp only at g1' g2'
      simp only [laws_eqByteSS.l0]
      rw [if_pos (by omega), if_pos (by omega), if_pos (by omega), g1', Option.bind_some, if_pos rfl, wrap_succ i (by omega), g2']
  refine Ev.congr (fun k => ?_) (key xs.length 0 (by omega))
  simp only [laws_eqByteSS.f]
  rw [if_pos trivial]
  rfl
theorem held_ev (xs : List (List Int)) (a : Int) (a0 : 0 ≤ a) (a1 : a + totalB xs ≤ 1099511627776) (hl : xs.length ≤ 1099511627776) : Ev (fun k => laws_heldByteSS.f k (markBB a xs) a) (a + totalB xs) := by
  have key : ∀ (r : List (List Int)) (p : List (List Int)) (b : Int), 0 ≤ b → b + totalB r ≤ 1099511627776 → p.length + r.length ≤ 1099511627776 → Ev (fun k => laws_heldByteSS.l0 k (p ++ markBB b r) b (p.length : Int)) (b + totalB r) := by
    intro r
    induction r with
    | nil =>
      intro p b b0 b1 hp
      have e : (b + ((totalB [] : Nat) : Int)) = b := by simp [totalB]
      rw [e]
      refine Ev.step (f := fun _ => some b) (fun k => ?_) (Ev.now _)
      simp only [laws_heldByteSS.l0]
      rw [if_neg (by simp [markBB])]
    | cons x r ih =>
      intro p b b0 b1 hp
      simp only [List.length_cons, totalB] at b1 hp
      obtain ⟨K2, g2⟩ := ih (p ++ [markB b x]) (b + x.length) (by omega) (by omega) (by simp; omega)
      obtain ⟨K1, g1⟩ := HelpB.held_ev x b b0 (by omega)
      refine ⟨K1 + K2 + 1, fun n hn => ?_⟩
      obtain ⟨n, rfl⟩ : ∃ m, n = m + 1 := ⟨n - 1, by omega⟩
      have g1' := g1 n (by omega)
      have g2' := g2 n (by omega)
      simp only at g1' g2'
      simp only [laws_heldByteSS.l0]
      have hg : rd_L1 (p ++ markBB b (x :: r)) (p.length : Int) = markB b x := by simp [rd_L1, markBB]
      rw [if_pos (by simp [markBB]; omega), if_pos (by omega), hg, g1', Option.bind_some, if_neg (by omega), wrap_succ _ (by omega)]
      have e1 : p ++ markBB b (x :: r) = p ++ [markB b x] ++ markBB (b + x.length) r := by simp [markBB]
      have e2 : ((p.length + 1 : Nat) : Int) = (((p ++ [markB b x]).length : Nat) : Int) := by simp
      rw [e1, e2, g2']
      simp only [totalB]
      congr 1
      omega
  have h := key xs [] a a0 a1 (by simp; omega)
  exact Ev.congr (fun k => by simp only [laws_heldByteSS.f]; rfl) h
theorem to_calls (x : List (List Int)) (v : Value) (w : World) (h : tBB.K w x v) (hb : bdBB x) :
    Calls Try.prog 39 #[v] w fun e w' => ∃ v', e = .returned v' ∧ tBB.M w' w.heap.size (fun _ => True) x v' ∧ Grew w w' := by
  obtain ⟨hl, ht⟩ := hb
  obtain ⟨A, c, rfl, hc, hr⟩ := h
  obtain ⟨k, hk⟩ := (to_ev x (by omega) (by omega)).rounds
  exact laws_toByteSS.calls k A c x x w hr hc hk
theorem eq_calls (x : List (List Int)) (v v' : Value) (w : World) (h : tBB.K w x v) (h' : tBB.K w x v') (hb : bdBB x) :
    Calls Try.prog 41 #[v, v'] w fun e w' => e = .returned (.bool true) ∧ Grew w w' := by
  obtain ⟨hl, ht⟩ := hb
  obtain ⟨A, c, rfl, hc, hr⟩ := h
  obtain ⟨A', c', rfl, hc', hr'⟩ := h'
  obtain ⟨k, hk⟩ := (eq_ev x (by omega) (by omega)).rounds
  refine (laws_eqByteSS.calls k A c x A' c' x true w hr hc hr' hc' hk).mono ?_
  rintro e w' ⟨rfl, h2⟩
  exact ⟨rfl, h2.below⟩
set_option maxRecDepth 100000 in
set_option maxHeartbeats 2000000 in
theorem mark_calls (xs : List (List Int)) (v : Value) (ok : Nat → Prop) (a : Int) (w0 w : World) (hB : Below w0.heap.size w0 w) (h : tBB.M w w0.heap.size ok xs v) (a0 : 0 ≤ a) (a1 : a + cntBB xs ≤ 1099511627776) (hb : bdBB xs) :
    Calls Try.prog 42 #[v, .int .i64 a] w fun e w' => e = .returned (.int .i64 (a + cntBB xs)) ∧ tBB.M w' w0.heap.size ok (markBB a xs) v ∧ Below w0.heap.size w0 w' ∧ Kept w w' ok := by
  have h : Kd.S kB 33 w w0.heap.size ok v xs := h
  obtain ⟨hlen, _⟩ := hb
  by_cases hz : xs.length = 0
  · obtain rfl := List.length_eq_zero_iff.1 hz
    obtain ⟨A, c, rfl⟩ := Kd.S_slice h
    have HH := Aside0.mk h
    have HB := Aside0.mk hB
    clear h hB hz hlen
    simp only [List.length_nil]
    go_enter Try.func42, Try.ntmps42
    go_wp2
    go_loopg [1, 5] 0 (fun gg s1 s5 wr => s1 = .int .i64 a ∧ s5 = .int .i64 0 ∧ wr = w)
    case atStart => exact ⟨rfl, rfl, rfl⟩
    case round =>
      obtain ⟨rfl, rfl, rfl⟩ := hrel
      go_wp2
      go_ret
      exact ⟨by simp [totalB], HH.out, HB.out, Kept.refl _ _⟩
  · obtain ⟨g, cap, rfl, _, _, _⟩ := Kd.S_form h (by omega)
    have HH := Aside0.mk h
    have HB0 := Aside0.mk hB
    have HL := Aside0.mk (show a + (totalB xs : Int) ≤ 1099511627776 from a1)
    clear h hB
    go_enter Try.func42, Try.ntmps42
    go_wp2
    go_loopg [1, 5] xs.length (fun gg s1 s5 wr => ∃ i : Nat, i ≤ xs.length ∧ xs.length - i ≤ gg ∧ s1 = .int .i64 (a + totalB (xs.take i)) ∧ s5 = .int .i64 i ∧ Aside0 (Kd.S kB 33 wr w0.heap.size ok (.slice (some ⟨g, 0, none⟩) xs.length cap) (part a xs i)) ∧ Aside0 (Below w0.heap.size w0 wr) ∧ Aside0 (Kept w wr ok))
    case atStart => exact ⟨0, by omega, by omega, by simp [totalB], rfl, ⟨HH.out⟩, ⟨HB0.out⟩, ⟨Kept.refl _ _⟩⟩
    case round =>
      obtain ⟨i, hi, hg, rfl, rfl, HS, HB, HK⟩ := hrel
      by_cases hlt : i < xs.length
      · have hltz : (i : Int) < (xs.length : Int) := by omega
        obtain ⟨oki, c, hcl, hM, hcell, hoki, hH⟩ := Kd.S_lend HS.out [] (i : Int) (by omega) (by omega)
        rw [Int.toNat_natCast, part_get a xs i hlt] at hM
        obtain ⟨u, rfl, hR⟩ := hM
        have hc0 := hcell 0 u rfl
        rw [Int.toNat_natCast] at hc0
        have hc1 : wr.cell? ⟨g, i, none⟩ = some u := by simpa [kB, Kd.slice] using hc0
        have htt := total_take xs (i + 1)
        rw [take_snoc xs i hlt, total_snoc] at htt
        have hcall := HelpB.mark_calls (xs.getD i []) u oki (a + totalB (xs.take i)) w0 wr HB.out hR (by omega) (by have := HL.out; show a + (totalB (xs.take i) : Int) + ((xs.getD i []).length : Int) ≤ _; omega) (by have := HL.out; show (xs.getD i []).length ≤ _; omega)
        have HH2 := Aside0.mk hH
        have HO := Aside0.mk hoki
        clear hcell hc0 hH hoki hR
        generalize hx : xs.getD i [] = x at hcall htt
        have HX := Aside0.mk hx
        clear hx
        go_wp2_with (go_at_call 24; refine hcall.mono ?_; rintro e w' ⟨rfl, hR', hB', hK'⟩)
        go_roundg (xs.length - (i + 1))
        case measure => omega
        case rel =>
          refine ⟨i + 1, by omega, by omega, ?_, by go_num, ⟨?_⟩, ⟨hB'⟩, ⟨HK.out.then_ hK' (fun k hk => .inl (HO.out k hk).1)⟩⟩
          · show Value.int .i64 (a + (totalB (xs.take i) : Int) + (x.length : Int)) = _
            rw [take_snoc xs i hlt, total_snoc, HX.out]
            congr 1
            omega
          · have h1 := Kd.H_back (Kd.H_step HH2.out (fun k hk hn hl => hK'.2 k hl hn)) (x' := markB (a + totalB (xs.take i)) x) ⟨u, rfl, hR'⟩ (fun _ hk => hk)
            rw [Int.toNat_natCast, ← HX.out, part_set a xs i hlt] at h1
            exact h1
      · obtain rfl : i = xs.length := by omega
        go_wp2
        go_ret
        refine ⟨by rw [List.take_length]; rfl, ?_, HB.out, HK.out⟩
        have := HS.out
        unfold part at this
        rw [List.take_length, List.drop_length, List.append_nil] at this
        exact this
theorem held_calls (xs : List (List Int)) (v : Value) (a : Int) (w : World) (h : tBB.K w (markBB a xs) v) (a0 : 0 ≤ a) (a1 : a + cntBB xs ≤ 1099511627776) (hb : bdBB xs) :
    Calls Try.prog 98 #[v, .int .i64 a] w fun e w' => e = .returned (.int .i64 (a + cntBB xs)) ∧ Grew w w' := by
  obtain ⟨A, c, rfl, hc, hr⟩ := h
  obtain ⟨k, hk⟩ := (held_ev xs a a0 a1 hb.1).rounds
  refine (laws_heldByteSS.calls k A c (markBB a xs) a _ w hr hc hk).mono ?_
  rintro e w' ⟨rfl, h2⟩
  exact ⟨rfl, h2.below⟩
end Go.Proofs.Ytmgmdnmfalepkaa.HelpBB

namespace Go.Proofs.Ytmgmdnmfalepkaa.L
open Go.RowKit Go.Proofs.YtmgmdnmfalepkaaW.PrintWords Go.Proofs.YtmgmdnmfalepkaaW.PrintLast Go.Proofs.YtmgmdnmfalepkaaW.PrintMore
attribute [local go_sem] max2_int min2_int max_two min_two max_three min_three max_four min_four
set_option linter.unusedVariables false
set_option linter.unusedSimpArgs false
def laws_toIntS.l0 : Nat → List Int → List Int → Int → Option (List Int)
  | 0, _, _, _ => none
  | k + 1, x0, x3, x4 => if x4 < (x0.length : Int) then (if 0 ≤ x4 then (if x4 < (x3.length : Int) then (laws_toIntS.l0 k x0 (x3.set (x4 : Int).toNat (rd x0 x4)) (wrap64 (x4 + 1))) else (none)) else (none)) else (some x3)
def laws_toIntS.f (k : Nat) (l0 : List Int) : Option (List Int) := if 0 ≤ (l0.length : Int) then (if ((l0.length : Int) : Int).toNat ≤ 35184372088832 then (laws_toIntS.l0 k l0 (List.replicate ((l0.length : Int) : Int).toNat 0) 0) else (none)) else (none)
theorem laws_toIntS.mono_l : ∀ k, (∀ y0 y1 y2, LeO (laws_toIntS.l0 k y0 y1 y2) (laws_toIntS.l0 (k + 1) y0 y1 y2))
  | 0 => fun _ _ _ r h => by simp [laws_toIntS.l0] at h
  | k + 1 => by
    have ih0 := laws_toIntS.mono_l k
    · intro y0 y1 y2
      unfold laws_toIntS.l0
      repeat' first
      | (with_reducible exact ih0 _ _ _)
      | (with_reducible exact LeO.refl _)
      | (with_reducible exact LeO.none _)
      | (with_reducible refine LeO.ite ?_ ?_)
      | (with_reducible refine LeO.bind ?_ (fun _ => ?_))
      | exact ih0 _ _ _
      | exact LeO.none _
      | refine LeO.ite ?_ ?_
      | refine LeO.bind ?_ (fun _ => ?_)
theorem laws_toIntS.mono : ∀ a0 k, LeO (laws_toIntS.f k a0) (laws_toIntS.f (k + 1) a0) := by
  intro a0 k
  have ih0 := laws_toIntS.mono_l k
  unfold laws_toIntS.f
  repeat' first
      | (with_reducible exact ih0 _ _ _)
      | (with_reducible exact LeO.refl _)
      | (with_reducible exact LeO.none _)
      | (with_reducible refine LeO.ite ?_ ?_)
      | (with_reducible refine LeO.bind ?_ (fun _ => ?_))
      | exact ih0 _ _ _
      | exact LeO.none _
      | refine LeO.ite ?_ ?_
      | refine LeO.bind ?_ (fun _ => ?_)
def laws_eqIntS.l0 : Nat → List Int → List Int → Int → Option (Bool)
  | 0, _, _, _ => none
  | k + 1, x0, x1, x5 => if x5 < (x0.length : Int) then (if 0 ≤ x5 then (if x5 < (x1.length : Int) then (if (rd x0 x5) = (rd x1 x5) then (laws_eqIntS.l0 k x0 x1 (wrap64 (x5 + 1))) else (some false)) else (none)) else (none)) else (some true)
def laws_eqIntS.f (k : Nat) (l0 : List Int) (l1 : List Int) : Option (Bool) := if (l0.length : Int) = (l1.length : Int) then (laws_eqIntS.l0 k l0 l1 0) else (some false)
theorem laws_eqIntS.mono_l : ∀ k, (∀ y0 y1 y2, LeO (laws_eqIntS.l0 k y0 y1 y2) (laws_eqIntS.l0 (k + 1) y0 y1 y2))
  | 0 => fun _ _ _ r h => by simp [laws_eqIntS.l0] at h
  | k + 1 => by
    have ih0 := laws_eqIntS.mono_l k
    · intro y0 y1 y2
      unfold laws_eqIntS.l0
      repeat' first
      | (with_reducible exact ih0 _ _ _)
      | (with_reducible exact LeO.refl _)
      | (with_reducible exact LeO.none _)
      | (with_reducible refine LeO.ite ?_ ?_)
      | (with_reducible refine LeO.bind ?_ (fun _ => ?_))
      | exact ih0 _ _ _
      | exact LeO.none _
      | refine LeO.ite ?_ ?_
      | refine LeO.bind ?_ (fun _ => ?_)
theorem laws_eqIntS.mono : ∀ a0 a1 k, LeO (laws_eqIntS.f k a0 a1) (laws_eqIntS.f (k + 1) a0 a1) := by
  intro a0 a1 k
  have ih0 := laws_eqIntS.mono_l k
  unfold laws_eqIntS.f
  repeat' first
      | (with_reducible exact ih0 _ _ _)
      | (with_reducible exact LeO.refl _)
      | (with_reducible exact LeO.none _)
      | (with_reducible refine LeO.ite ?_ ?_)
      | (with_reducible refine LeO.bind ?_ (fun _ => ?_))
      | exact ih0 _ _ _
      | exact LeO.none _
      | refine LeO.ite ?_ ?_
      | refine LeO.bind ?_ (fun _ => ?_)
def laws_heldIntS.l0 : Nat → List Int → Int → Int → Option (Int)
  | 0, _, _, _ => none
  | k + 1, x0, x1, x5 => if x5 < (x0.length : Int) then (if 0 ≤ x5 then (if (rd x0 x5) = x1 then (laws_heldIntS.l0 k x0 (wrap64 (x1 + 1)) (wrap64 (x5 + 1))) else (some (-1))) else (none)) else (some x1)
def laws_heldIntS.f (k : Nat) (l0 : List Int) (a1 : Int) : Option (Int) := laws_heldIntS.l0 k l0 a1 0
theorem laws_heldIntS.mono_l : ∀ k, (∀ y0 y1 y2, LeO (laws_heldIntS.l0 k y0 y1 y2) (laws_heldIntS.l0 (k + 1) y0 y1 y2))
  | 0 => fun _ _ _ r h => by simp [laws_heldIntS.l0] at h
  | k + 1 => by
    have ih0 := laws_heldIntS.mono_l k
    · intro y0 y1 y2
      unfold laws_heldIntS.l0
      repeat' first
      | (with_reducible exact ih0 _ _ _)
      | (with_reducible exact LeO.refl _)
      | (with_reducible exact LeO.none _)
      | (with_reducible refine LeO.ite ?_ ?_)
      | (with_reducible refine LeO.bind ?_ (fun _ => ?_))
      | exact ih0 _ _ _
      | exact LeO.none _
      | refine LeO.ite ?_ ?_
      | refine LeO.bind ?_ (fun _ => ?_)
theorem laws_heldIntS.mono : ∀ a0 a1 k, LeO (laws_heldIntS.f k a0 a1) (laws_heldIntS.f (k + 1) a0 a1) := by
  intro a0 a1 k
  have ih0 := laws_heldIntS.mono_l k
  unfold laws_heldIntS.f
  repeat' first
      | (with_reducible exact ih0 _ _ _)
      | (with_reducible exact LeO.refl _)
      | (with_reducible exact LeO.none _)
      | (with_reducible refine LeO.ite ?_ ?_)
      | (with_reducible refine LeO.bind ?_ (fun _ => ?_))
      | exact ih0 _ _ _
      | exact LeO.none _
      | refine LeO.ite ?_ ?_
      | refine LeO.bind ?_ (fun _ => ?_)
def laws_markIntS.l0 : Nat → List Int → Int → Int → Option (Int × List Int)
  | 0, _, _, _ => none
  | k + 1, x0, x1, x5 => if x5 < (x0.length : Int) then (if 0 ≤ x5 then (laws_markIntS.l0 k (x0.set (x5 : Int).toNat x1) (wrap64 (x1 + 1)) (wrap64 (x5 + 1))) else (none)) else (some (x1, x0))
def laws_markIntS.f (k : Nat) (l0 : List Int) (a1 : Int) : Option (Int × List Int) := laws_markIntS.l0 k l0 a1 0
theorem laws_markIntS.mono_l : ∀ k, (∀ y0 y1 y2, LeO (laws_markIntS.l0 k y0 y1 y2) (laws_markIntS.l0 (k + 1) y0 y1 y2))
  | 0 => fun _ _ _ r h => by simp [laws_markIntS.l0] at h
  | k + 1 => by
    have ih0 := laws_markIntS.mono_l k
    · intro y0 y1 y2
      unfold laws_markIntS.l0
      repeat' first
      | (with_reducible exact ih0 _ _ _)
      | (with_reducible exact LeO.refl _)
      | (with_reducible exact LeO.none _)
      | (with_reducible refine LeO.ite ?_ ?_)
      | (with_reducible refine LeO.bind ?_ (fun _ => ?_))
      | exact ih0 _ _ _
      | exact LeO.none _
      | refine LeO.ite ?_ ?_
      | refine LeO.bind ?_ (fun _ => ?_)
theorem laws_markIntS.mono : ∀ a0 a1 k, LeO (laws_markIntS.f k a0 a1) (laws_markIntS.f (k + 1) a0 a1) := by
  intro a0 a1 k
  have ih0 := laws_markIntS.mono_l k
  unfold laws_markIntS.f
  repeat' first
      | (with_reducible exact ih0 _ _ _)
      | (with_reducible exact LeO.refl _)
      | (with_reducible exact LeO.none _)
      | (with_reducible refine LeO.ite ?_ ?_)
      | (with_reducible refine LeO.bind ?_ (fun _ => ?_))
      | exact ih0 _ _ _
      | exact LeO.none _
      | refine LeO.ite ?_ ?_
      | refine LeO.bind ?_ (fun _ => ?_)
def laws_toIntSS.l0 : Nat → List (List Int) → List (List Int) → Int → Option ((List (List Int)))
  | 0, _, _, _ => none
  | k + 1, x0, x3, x4 => if x4 < (x0.length : Int) then (if 0 ≤ x4 then ((laws_toIntS.f k (rd_L3 x0 x4)).bind fun t136 => (if x4 < (x3.length : Int) then (laws_toIntSS.l0 k x0 (x3.set (x4 : Int).toNat t136) (wrap64 (x4 + 1))) else (none))) else (none)) else (some x3)
def laws_toIntSS.f (k : Nat) (l0 : List (List Int)) : Option ((List (List Int))) := if 0 ≤ (l0.length : Int) then (if ((l0.length : Int) : Int).toNat ≤ 11728124029610 then (laws_toIntSS.l0 k l0 (List.replicate ((l0.length : Int) : Int).toNat []) 0) else (none)) else (none)
theorem laws_toIntSS.mono_l : ∀ k, (∀ y0 y1 y2, LeO (laws_toIntSS.l0 k y0 y1 y2) (laws_toIntSS.l0 (k + 1) y0 y1 y2))
  | 0 => fun _ _ _ r h => by simp [laws_toIntSS.l0] at h
  | k + 1 => by
    have ih0 := laws_toIntSS.mono_l k
    · intro y0 y1 y2
      unfold laws_toIntSS.l0
      repeat' first
      | (with_reducible exact ih0 _ _ _)
      | (with_reducible exact laws_toIntS.mono _ _)
      | (with_reducible exact LeO.refl _)
      | (with_reducible exact LeO.none _)
      | (with_reducible refine LeO.ite ?_ ?_)
      | (with_reducible refine LeO.bind ?_ (fun _ => ?_))
      | exact ih0 _ _ _
      | exact laws_toIntS.mono _ _
      | exact LeO.none _
      | refine LeO.ite ?_ ?_
      | refine LeO.bind ?_ (fun _ => ?_)
theorem laws_toIntSS.mono : ∀ a0 k, LeO (laws_toIntSS.f k a0) (laws_toIntSS.f (k + 1) a0) := by
  intro a0 k
  have ih0 := laws_toIntSS.mono_l k
  unfold laws_toIntSS.f
  repeat' first
      | (with_reducible exact ih0 _ _ _)
      | (with_reducible exact laws_toIntS.mono _ _)
      | (with_reducible exact LeO.refl _)
      | (with_reducible exact LeO.none _)
      | (with_reducible refine LeO.ite ?_ ?_)
      | (with_reducible refine LeO.bind ?_ (fun _ => ?_))
      | exact ih0 _ _ _
      | exact laws_toIntS.mono _ _
      | exact LeO.none _
      | refine LeO.ite ?_ ?_
      | refine LeO.bind ?_ (fun _ => ?_)
def laws_eqIntSS.l0 : Nat → List (List Int) → List (List Int) → Int → Option (Bool)
  | 0, _, _, _ => none
  | k + 1, x0, x1, x5 => if x5 < (x0.length : Int) then (if 0 ≤ x5 then (if x5 < (x1.length : Int) then ((laws_eqIntS.f k (rd_L3 x0 x5) (rd_L3 x1 x5)).bind fun t142 => (if t142 = true then (laws_eqIntSS.l0 k x0 x1 (wrap64 (x5 + 1))) else (some false))) else (none)) else (none)) else (some true)
def laws_eqIntSS.f (k : Nat) (l0 : List (List Int)) (l1 : List (List Int)) : Option (Bool) := if (l0.length : Int) = (l1.length : Int) then (laws_eqIntSS.l0 k l0 l1 0) else (some false)
theorem laws_eqIntSS.mono_l : ∀ k, (∀ y0 y1 y2, LeO (laws_eqIntSS.l0 k y0 y1 y2) (laws_eqIntSS.l0 (k + 1) y0 y1 y2))
  | 0 => fun _ _ _ r h => by simp [laws_eqIntSS.l0] at h
  | k + 1 => by
    have ih0 := laws_eqIntSS.mono_l k
    · intro y0 y1 y2
      unfold laws_eqIntSS.l0
      repeat' first
      | (with_reducible exact ih0 _ _ _)
      | (with_reducible exact laws_eqIntS.mono _ _ _)
      | (with_reducible exact LeO.refl _)
      | (with_reducible exact LeO.none _)
      | (with_reducible refine LeO.ite ?_ ?_)
      | (with_reducible refine LeO.bind ?_ (fun _ => ?_))
      | exact ih0 _ _ _
      | exact laws_eqIntS.mono _ _ _
      | exact LeO.none _
      | refine LeO.ite ?_ ?_
      | refine LeO.bind ?_ (fun _ => ?_)
theorem laws_eqIntSS.mono : ∀ a0 a1 k, LeO (laws_eqIntSS.f k a0 a1) (laws_eqIntSS.f (k + 1) a0 a1) := by
  intro a0 a1 k
  have ih0 := laws_eqIntSS.mono_l k
  unfold laws_eqIntSS.f
  repeat' first
      | (with_reducible exact ih0 _ _ _)
      | (with_reducible exact laws_eqIntS.mono _ _ _)
      | (with_reducible exact LeO.refl _)
      | (with_reducible exact LeO.none _)
      | (with_reducible refine LeO.ite ?_ ?_)
      | (with_reducible refine LeO.bind ?_ (fun _ => ?_))
      | exact ih0 _ _ _
      | exact laws_eqIntS.mono _ _ _
      | exact LeO.none _
      | refine LeO.ite ?_ ?_
      | refine LeO.bind ?_ (fun _ => ?_)
def laws_heldIntSS.l0 : Nat → List (List Int) → Int → Int → Option (Int)
  | 0, _, _, _ => none
  | k + 1, x0, x1, x5 => if x5 < (x0.length : Int) then (if 0 ≤ x5 then ((laws_heldIntS.f k (rd_L3 x0 x5) x1).bind fun t144 => (if t144 < 0 then (some (-1)) else (laws_heldIntSS.l0 k x0 t144 (wrap64 (x5 + 1))))) else (none)) else (some x1)
def laws_heldIntSS.f (k : Nat) (l0 : List (List Int)) (a1 : Int) : Option (Int) := laws_heldIntSS.l0 k l0 a1 0
theorem laws_heldIntSS.mono_l : ∀ k, (∀ y0 y1 y2, LeO (laws_heldIntSS.l0 k y0 y1 y2) (laws_heldIntSS.l0 (k + 1) y0 y1 y2))
  | 0 => fun _ _ _ r h => by simp [laws_heldIntSS.l0] at h
  | k + 1 => by
    have ih0 := laws_heldIntSS.mono_l k
    · intro y0 y1 y2
      unfold laws_heldIntSS.l0
      repeat' first
      | (with_reducible exact ih0 _ _ _)
      | (with_reducible exact laws_heldIntS.mono _ _ _)
      | (with_reducible exact LeO.refl _)
      | (with_reducible exact LeO.none _)
      | (with_reducible refine LeO.ite ?_ ?_)
      | (with_reducible refine LeO.bind ?_ (fun _ => ?_))
      | exact ih0 _ _ _
      | exact laws_heldIntS.mono _ _ _
      | exact LeO.none _
      | refine LeO.ite ?_ ?_
      | refine LeO.bind ?_ (fun _ => ?_)
theorem laws_heldIntSS.mono : ∀ a0 a1 k, LeO (laws_heldIntSS.f k a0 a1) (laws_heldIntSS.f (k + 1) a0 a1) := by
  intro a0 a1 k
  have ih0 := laws_heldIntSS.mono_l k
  unfold laws_heldIntSS.f
  repeat' first
      | (with_reducible exact ih0 _ _ _)
      | (with_reducible exact laws_heldIntS.mono _ _ _)
      | (with_reducible exact LeO.refl _)
      | (with_reducible exact LeO.none _)
      | (with_reducible refine LeO.ite ?_ ?_)
      | (with_reducible refine LeO.bind ?_ (fun _ => ?_))
      | exact ih0 _ _ _
      | exact laws_heldIntS.mono _ _ _
      | exact LeO.none _
      | refine LeO.ite ?_ ?_
      | refine LeO.bind ?_ (fun _ => ?_)
def laws_szIntS.f (l0 : List Int) (a1 : Int) : Option (Int) := if (wrap64 (a1 - (l0.length : Int))) < 0 then (some (-1)) else (some (wrap64 (a1 - (l0.length : Int))))
def laws_szIntSS.l0 : Nat → List (List Int) → Int → Int → Option (Int)
  | 0, _, _, _ => none
  | k + 1, x0, x1, x5 => if x5 < (x0.length : Int) then (if 0 ≤ x5 then ((laws_szIntS.f (rd_L3 x0 x5) x1).bind fun t146 => (if t146 < 0 then (some (-1)) else (laws_szIntSS.l0 k x0 t146 (wrap64 (x5 + 1))))) else (none)) else (some x1)
def laws_szIntSS.f (k : Nat) (l0 : List (List Int)) (a1 : Int) : Option (Int) := if (wrap64 (a1 - (l0.length : Int))) < 0 then (some (-1)) else (laws_szIntSS.l0 k l0 (wrap64 (a1 - (l0.length : Int))) 0)
theorem laws_szIntSS.mono_l : ∀ k, (∀ y0 y1 y2, LeO (laws_szIntSS.l0 k y0 y1 y2) (laws_szIntSS.l0 (k + 1) y0 y1 y2))
  | 0 => fun _ _ _ r h => by simp [laws_szIntSS.l0] at h
  | k + 1 => by
    have ih0 := laws_szIntSS.mono_l k
    · intro y0 y1 y2
      unfold laws_szIntSS.l0
      repeat' first
      | (with_reducible exact ih0 _ _ _)
      | (with_reducible exact LeO.refl _)
      | (with_reducible exact LeO.none _)
      | (with_reducible refine LeO.ite ?_ ?_)
      | (with_reducible refine LeO.bind ?_ (fun _ => ?_))
      | exact ih0 _ _ _
      | exact LeO.none _
      | refine LeO.ite ?_ ?_
      | refine LeO.bind ?_ (fun _ => ?_)
theorem laws_szIntSS.mono : ∀ a0 a1 k, LeO (laws_szIntSS.f k a0 a1) (laws_szIntSS.f (k + 1) a0 a1) := by
  intro a0 a1 k
  have ih0 := laws_szIntSS.mono_l k
  unfold laws_szIntSS.f
  repeat' first
      | (with_reducible exact ih0 _ _ _)
      | (with_reducible exact LeO.refl _)
      | (with_reducible exact LeO.none _)
      | (with_reducible refine LeO.ite ?_ ?_)
      | (with_reducible refine LeO.bind ?_ (fun _ => ?_))
      | exact ih0 _ _ _
      | exact LeO.none _
      | refine LeO.ite ?_ ?_
      | refine LeO.bind ?_ (fun _ => ?_)
end Go.Proofs.Ytmgmdnmfalepkaa.L

namespace Go.Proofs.Ytmgmdnmfalepkaa.HelpI
open Go.RowKit Go.Proofs.YtmgmdnmfalepkaaW.PrintWords Go.Proofs.YtmgmdnmfalepkaaW.PrintMore Go.Proofs.Ytmgmdnmfalepkaa.Kit Go.Proofs.Ytmgmdnmfalepkaa.PKit Go.Proofs.Ytmgmdnmfalepkaa.Ty
open Go.Proofs.Ytmgmdnmfalepkaa.L
set_option linter.unusedVariables false
abbrev tI : Ty (List Int) := Ty.row (Kd.int .i64) 3
end Go.Proofs.Ytmgmdnmfalepkaa.HelpI

namespace Go.Proofs.Ytmgmdnmfalepkaa.HelpII
open Go.RowKit Go.Proofs.YtmgmdnmfalepkaaW.PrintWords Go.Proofs.YtmgmdnmfalepkaaW.PrintMore Go.Proofs.Ytmgmdnmfalepkaa.Kit Go.Proofs.Ytmgmdnmfalepkaa.PKit Go.Proofs.Ytmgmdnmfalepkaa.Ty Go.Proofs.Ytmgmdnmfalepkaa.HelpI
open Go.Proofs.Ytmgmdnmfalepkaa.L
set_option linter.unusedVariables false
abbrev kI := Kd.slice 3 (Kd.int .i64)
abbrev tII : Ty (List (List Int)) := Ty.rows kI 22
end Go.Proofs.Ytmgmdnmfalepkaa.HelpII

namespace Go.Proofs.Ytmgmdnmfalepkaa.Ty
open Go.RowKit Go.Proofs.YtmgmdnmfalepkaaW.PrintWords Go.Proofs.YtmgmdnmfalepkaaW.PrintMore Go.Proofs.Ytmgmdnmfalepkaa.Kit Go.Proofs.Ytmgmdnmfalepkaa.PKit
set_option linter.unusedVariables false
theorem gate_args {P : Program} {f : FuncId} {args : Array Value} {w : World} {Q : Ending → World → Prop} (as_ : Array Value) (_h : args = as_) (h : Calls P f args w Q) : Calls P f args w Q := h
theorem Ty.M_set {α : Type} {T : Ty α} {w : World} {base : Nat} {ok : Nat → Prop} {x : α} {v : Value} (h : T.M w base ok x v) {g j : Nat} (hne : ∀ k, ok k → k = g → False) (u : Value) : T.M (w.setCell ⟨g, j, none⟩ u) base ok x v :=
  T.M_move (fun k hk => Below.heap_setCell w ⟨g, j, none⟩ u k (fun e => hne k hk e)) h
theorem Tys.M_one {α : Type} {a : Ty α} {w : World} {base : Nat} {ok : Nat → Prop} {x : α} {v : Value} (h : a.M w base ok x v) : (Tys.one a).M w base ok x [v] := ⟨v, rfl, h⟩
theorem Tys.cons_apart {α β : Type} {a : Ty α} {b : Tys β} {w : World} {base : Nat} {ok1 ok2 : Nat → Prop} {x : α} {y : β} {v : Value} {r : List Value} (h1 : a.M w base ok1 x v) (h2 : b.M w base ok2 y r) (hd : ∀ k, ok2 k → ok1 k → False) :
    (Tys.cons a b).M w base (fun k => ok1 k ∨ ok2 k) (x, y) (v :: r) :=
  ⟨v, r, ok1, ok2, rfl, fun _ h => .inl h, fun k h => ⟨.inr h, fun h' => hd k h h'⟩, h1, h2⟩
end Go.Proofs.Ytmgmdnmfalepkaa.Ty
namespace Go.Proofs.Ytmgmdnmfalepkaa.HelpBB
open Go.RowKit Go.Proofs.YtmgmdnmfalepkaaW.PrintWords Go.Proofs.Ytmgmdnmfalepkaa.PKit Go.Proofs.Ytmgmdnmfalepkaa.L Go.Proofs.Ytmgmdnmfalepkaa.Ty
theorem lens {x : List (List Int)} (hK : ∃ w v, tBB.K w x v) : x.length ≤ 9223372036854775807 ∧ ∀ i, (x.getD i []).length ≤ 9223372036854775807 := by
  obtain ⟨w, v, A, c, rfl, hc, hr⟩ := hK
  refine ⟨hr.2.1, fun i => ?_⟩
  by_cases hi : i < x.length
  · obtain ⟨ad, e, h⟩ := hr.2.2 (by omega)
    obtain ⟨cs, _, hK, _⟩ := h i (x.getD i []) (by simp [List.getD, List.getElem?_eq_getElem hi])
    obtain ⟨A', c', _, _, hr'⟩ := hK
    exact hr'.2.1
  · simp [List.getD, List.getElem?_eq_none (Nat.le_of_not_lt hi)]
theorem sz_ev (x : List (List Int)) (left : Int) (h0 : 0 ≤ left) (h1 : left ≤ 1048576) (hK : ∃ w v, tBB.K w x v) :
    ∃ r, Ev (fun k => laws_szByteSS.f k x left) r ∧ (0 ≤ r → r + ((x.length + totalB x : Nat) : Int) = left) := by
  obtain ⟨hl, hi⟩ := lens hK
  have hb : -9223372036854775808 ≤ left - (x.length : Int) ∧ left - (x.length : Int) ≤ 9223372036854775807 := by omega
  by_cases hneg : left - (x.length : Int) < 0
  · refine ⟨-1, Ev.congr (f := fun _ => some (-1)) (fun k => ?_) (Ev.now _), by omega⟩
    simp only [laws_szByteSS.f]
    rw [wrap_in hb, if_pos hneg]
  have key : ∀ (d i : Nat) (l : Int), i + d = x.length → 0 ≤ l → l ≤ 1048576 → ∃ r, Ev (fun k => laws_szByteSS.l0 k x l (i : Int)) r ∧ (0 ≤ r → r + ((totalB (x.drop i) : Nat) : Int) = l) := by
    intro d
    induction d with
    | zero =>
      intro i l hd l0 l1
      refine ⟨l, Ev.step (f := fun _ => some l) (fun k => ?_) (Ev.now _), fun _ => ?_⟩
      · simp only [laws_szByteSS.l0]
        rw [if_neg (by omega)]
      · rw [List.drop_of_length_le (by omega)]
        simp [totalB]
    | succ d ih =>
      intro i l hd l0 l1
      have hlt : i < x.length := by omega
      have hg : rd_L1 x (i : Int) = x.getD i [] := rfl
      have hli := hi i
      have hb2 : -9223372036854775808 ≤ l - ((x.getD i []).length : Int) ∧ l - ((x.getD i []).length : Int) ≤ 9223372036854775807 := by omega
      have hdr : x.drop i = x.getD i [] :: x.drop (i + 1) := by
        rw [List.drop_eq_getElem_cons hlt]
        simp [List.getD, List.getElem?_eq_getElem hlt]
      by_cases hn : l - ((x.getD i []).length : Int) < 0
      · refine ⟨-1, Ev.step (f := fun _ => some (-1)) (fun k => ?_) (Ev.now _), by omega⟩
        simp only [laws_szByteSS.l0]
        rw [if_pos (by omega), if_pos (by omega), hg]
        simp only [laws_szByteS.f]
        rw [wrap_in hb2, if_pos hn, Option.bind_some, if_pos (by decide)]
      · obtain ⟨r, hr, hq⟩ := ih (i + 1) (l - ((x.getD i []).length : Int)) (by omega) (by omega) (by omega)
        refine ⟨r, Ev.step (fun k => ?_) hr, fun h => ?_⟩
        · simp only [laws_szByteSS.l0]
          rw [if_pos (by omega), if_pos (by omega), hg]
          simp only [laws_szByteS.f]
          rw [wrap_in hb2, if_neg hn, Option.bind_some, if_neg hn, wrap_succ i (by omega)]
        · have := hq h
          rw [hdr]
          simp only [totalB]
          omega
  obtain ⟨r, hr, hq⟩ := key x.length 0 (left - (x.length : Int)) (by omega) (by omega) (by omega)
  refine ⟨r, Ev.congr (fun k => ?_) hr, fun h => ?_⟩
  · simp only [laws_szByteSS.f]
    rw [wrap_in hb, if_neg hneg]
    rfl
  · have := hq h
    rw [List.drop_zero] at this
    omega
end Go.Proofs.Ytmgmdnmfalepkaa.HelpBB
namespace Go.Proofs.Ytmgmdnmfalepkaa.HelpII
open Go.RowKit Go.Proofs.YtmgmdnmfalepkaaW.PrintWords Go.Proofs.Ytmgmdnmfalepkaa.PKit Go.Proofs.Ytmgmdnmfalepkaa.L Go.Proofs.Ytmgmdnmfalepkaa.Ty
end Go.Proofs.Ytmgmdnmfalepkaa.HelpII
namespace Go.Proofs.Ytmgmdnmfalepkaa.HelpI
open Go.RowKit Go.Proofs.YtmgmdnmfalepkaaW.PrintWords Go.Proofs.Ytmgmdnmfalepkaa.PKit Go.Proofs.Ytmgmdnmfalepkaa.L Go.Proofs.Ytmgmdnmfalepkaa.Ty
end Go.Proofs.Ytmgmdnmfalepkaa.HelpI

namespace Go.Proofs.Ytmgmdnmfalepkaa.L
open Go.RowKit Go.Proofs.YtmgmdnmfalepkaaW.PrintWords Go.Proofs.YtmgmdnmfalepkaaW.PrintLast Go.Proofs.YtmgmdnmfalepkaaW.PrintMore
attribute [local go_sem] max2_int min2_int max_two min_two max_three min_three max_four min_four
set_option linter.unusedVariables false
set_option linter.unusedSimpArgs false
def laws_szState.f (k : Nat) (l0_0 : List (List Int)) (l0_1 : List (List Int)) (a1 : Int) : Option (Int) := (laws_szByteSS.f k l0_0 a1).bind fun t152 => (if t152 < 0 then (some (-1)) else ((laws_szByteSS.f k l0_1 t152).bind fun t153 => (if t153 < 0 then (some (-1)) else (some t153))))
theorem laws_szState.mono : ∀ a0 a1 a2 k, LeO (laws_szState.f k a0 a1 a2) (laws_szState.f (k + 1) a0 a1 a2) := by
  intro a0 a1 a2 k
  unfold laws_szState.f
  repeat' first
      | (with_reducible exact laws_szByteSS.mono _ _ _)
      | (with_reducible exact LeO.refl _)
      | (with_reducible exact LeO.none _)
      | (with_reducible refine LeO.ite ?_ ?_)
      | (with_reducible refine LeO.bind ?_ (fun _ => ?_))
      | exact laws_szByteSS.mono _ _ _
      | exact LeO.none _
      | refine LeO.ite ?_ ?_
      | refine LeO.bind ?_ (fun _ => ?_)
set_option maxHeartbeats 8000000 in
set_option maxRecDepth 100000 in
theorem laws_szState.calls (k : Nat) (A0_0 : Option Addr) (c0_0 : Nat) (l0_0 : List (List Int)) (A0_1 : Option Addr) (c0_1 : Nat) (l0_1 : List (List Int)) (a1 : Int) (r : Int) (w : World) (hr0_0 : Kd.C (Kd.slice 5 (Kd.int .u8)) w A0_0 l0_0.length l0_0) (hc0_0 : l0_0.length ≤ c0_0) (hr0_1 : Kd.C (Kd.slice 5 (Kd.int .u8)) w A0_1 l0_1.length l0_1) (hc0_1 : l0_1.length ≤ c0_1) (h : laws_szState.f k l0_0 l0_1 a1 = some r) :
    Calls Try.prog 51 #[.agg #[.slice A0_0 l0_0.length c0_0, .slice A0_1 l0_1.length c0_1], .int .i64 a1] w fun e w' => e = .returned (.int .i64 r) ∧ Below w.heap.size w w' := by
  have hu71 := Try.underlying71
  have HR0_0 := Aside0.mk hr0_0
  have HC0_0 := Aside0.mk hc0_0
  clear hr0_0 hc0_0
  have HR0_1 := Aside0.mk hr0_1
  have HC0_1 := Aside0.mk hc0_1
  clear hr0_1 hc0_1
  have HB := Aside0.mk (Below.refl w.heap.size w)
  have H : ((laws_szByteSS.f k l0_0 a1).bind fun t152 => (if t152 < 0 then (some (-1)) else ((laws_szByteSS.f k l0_1 t152).bind fun t153 => (if t153 < 0 then (some (-1)) else (some t153))))) = some r := h
  clear h
  replace H := Option.bind_eq_some_iff.mp H
  obtain ⟨t152, A30, H⟩ := H
  replace H : (if t152 < 0 then (some (-1)) else ((laws_szByteSS.f k l0_1 t152).bind fun t153 => (if t153 < 0 then (some (-1)) else (some t153)))) = some r := H
  have A3 := Aside0.mk A30
  clear A30
  by_cases c4 : t152 < 0
  · rw [if_pos c4] at H
    have c4b0 : decide (t152 < 0) = true := decide_eq_true c4
    clear c4
    obtain rfl := Option.some.inj H
    go_enter Try.func51, Try.ntmps51
    go_wp2_with (first | ((with_reducible refine gate_dst (N := 2) rfl ?_); refine box_event ?hg (N := 2) ?hd (cs := #[.slice A0_0 l0_0.length c0_0, .slice A0_1 l0_1.length c0_1]) (t := 71) ?hr ?_; (case hd => rfl); (case hg => rfl); (case hr => first | (go_simp; done) | (go_simp; rfl)); intro gb151 hg w5 hbox hb; have n0_ := Aside0.mk (below_step (by repeat (first | (with_reducible first | exact HB.out | apply below_alloc | apply pw_below_drewN | apply below_drew1) | exact HB.out)) hb); have n1_ := Aside0.mk (hbox); have n2_ := Aside0.mk ((by rw [hg]; exact (below_size (by repeat (first | (with_reducible first | exact HB.out | apply below_alloc | apply pw_below_drewN | apply below_drew1) | exact HB.out))) : w.heap.size ≤ gb151)); have n3_ := Aside0.mk ((by rw [hg]; exact (below_size (by repeat (first | (with_reducible first | exact HB.out | apply below_alloc | apply pw_below_drewN | apply below_drew1) | exact HB.out))) : w.heap.size ≤ gb151)); clear HB; have HB := n0_; have BK151 := n1_; have GW151 := n2_; have GE151 := n3_; clear n0_ n1_ n2_ n3_; clear hb hbox hg; have hcz6_0 : w5.cell? ⟨gb151, 0, none⟩ = some (.slice A0_0 l0_0.length c0_0) := (blk_cell BK151.out 0).trans rfl; have hcz6_1 : w5.cell? ⟨gb151, 1, none⟩ = some (.slice A0_1 l0_1.length c0_1) := (blk_cell BK151.out 1).trans rfl; have hfz6_0 := blk_frozen BK151.out 0; have hfz6_1 := blk_frozen BK151.out 1) | ((with_reducible refine gate_callee (f := 37) rfl ?_); refine goesL_ (some 8) rfl rfl Try.func37 (by kernel_rfl) rfl #[.slice A0_0 l0_0.length c0_0, .int .i64 a1] rfl (by (try simp only [List.map_toArray, List.map_cons, List.map_nil]); first | done | rfl | (simp only [List.length_drop, List.length_take]; rfl)) ?_; (with_reducible refine (laws_szByteSS.calls k _ _ l0_0 a1 t152 _ ?side1 ?side2 A3.out).mono ?_); (case side1 => repeat (first | exact (Kd.C_below HR0_0.out HB.out) | (with_reducible refine Kd.C_alloc ?_ _) | (with_reducible refine Kd.C_drewN ?_ _) | (with_reducible refine Kd.C_drew ?_))); (case side2 => exact HC0_0.out); rintro e w' ⟨rfl, ⟨nd, rfl⟩⟩; refine ⟨_, rfl, ?_⟩))
    go_ret
    exact ⟨by first | rfl | (simp [errW_none, errW_some] <;> rfl) | (simp [*, errW_none, errW_some] <;> rfl), by repeat (first | (with_reducible first | exact HB.out | apply below_alloc | apply pw_below_drewN | apply below_drew1 | refine below_set ?_ GE151.out) | exact HB.out)⟩
  · rw [if_neg c4] at H
    have c4b0 : decide (t152 < 0) = false := decide_eq_false c4
    clear c4
    replace H := Option.bind_eq_some_iff.mp H
    obtain ⟨t153, A70, H⟩ := H
    replace H : (if t153 < 0 then (some (-1)) else (some t153)) = some r := H
    have A7 := Aside0.mk A70
    clear A70
    by_cases c8 : t153 < 0
    · rw [if_pos c8] at H
      have c8b0 : decide (t153 < 0) = true := decide_eq_true c8
      clear c8
      obtain rfl := Option.some.inj H
      go_enter Try.func51, Try.ntmps51
      go_wp2_with (first | ((with_reducible refine gate_dst (N := 2) rfl ?_); refine box_event ?hg (N := 2) ?hd (cs := #[.slice A0_0 l0_0.length c0_0, .slice A0_1 l0_1.length c0_1]) (t := 71) ?hr ?_; (case hd => rfl); (case hg => rfl); (case hr => first | (go_simp; done) | (go_simp; rfl)); intro gb151 hg w9 hbox hb; have n0_ := Aside0.mk (below_step (by repeat (first | (with_reducible first | exact HB.out | apply below_alloc | apply pw_below_drewN | apply below_drew1) | exact HB.out)) hb); have n1_ := Aside0.mk (hbox); have n2_ := Aside0.mk ((by rw [hg]; exact (below_size (by repeat (first | (with_reducible first | exact HB.out | apply below_alloc | apply pw_below_drewN | apply below_drew1) | exact HB.out))) : w.heap.size ≤ gb151)); have n3_ := Aside0.mk ((by rw [hg]; exact (below_size (by repeat (first | (with_reducible first | exact HB.out | apply below_alloc | apply pw_below_drewN | apply below_drew1) | exact HB.out))) : w.heap.size ≤ gb151)); clear HB; have HB := n0_; have BK151 := n1_; have GW151 := n2_; have GE151 := n3_; clear n0_ n1_ n2_ n3_; clear hb hbox hg; have hcz10_0 : w9.cell? ⟨gb151, 0, none⟩ = some (.slice A0_0 l0_0.length c0_0) := (blk_cell BK151.out 0).trans rfl; have hcz10_1 : w9.cell? ⟨gb151, 1, none⟩ = some (.slice A0_1 l0_1.length c0_1) := (blk_cell BK151.out 1).trans rfl; have hfz10_0 := blk_frozen BK151.out 0; have hfz10_1 := blk_frozen BK151.out 1) | ((with_reducible refine gate_callee (f := 37) rfl ?_); refine goesL_ (some 8) rfl rfl Try.func37 (by kernel_rfl) rfl #[.slice A0_0 l0_0.length c0_0, .int .i64 a1] rfl (by (try simp only [List.map_toArray, List.map_cons, List.map_nil]); first | done | rfl | (simp only [List.length_drop, List.length_take]; rfl)) ?_; (with_reducible refine (laws_szByteSS.calls k _ _ l0_0 a1 t152 _ ?side1 ?side2 A3.out).mono ?_); (case side1 => repeat (first | exact (Kd.C_below HR0_0.out HB.out) | (with_reducible refine Kd.C_alloc ?_ _) | (with_reducible refine Kd.C_drewN ?_ _) | (with_reducible refine Kd.C_drew ?_))); (case side2 => exact HC0_0.out); rintro e w' ⟨rfl, ⟨nd, rfl⟩⟩; refine ⟨_, rfl, ?_⟩) | ((with_reducible refine gate_callee (f := 37) rfl ?_); refine goesL_ (some 14) rfl rfl Try.func37 (by kernel_rfl) rfl #[.slice A0_1 l0_1.length c0_1, .int .i64 t152] rfl (by (try simp only [List.map_toArray, List.map_cons, List.map_nil]); first | done | rfl | (simp only [List.length_drop, List.length_take]; rfl)) ?_; (with_reducible refine (laws_szByteSS.calls k _ _ l0_1 t152 t153 _ ?side1 ?side2 A7.out).mono ?_); (case side1 => repeat (first | exact (Kd.C_below HR0_1.out (by repeat (first | (with_reducible first | exact HB.out | apply below_alloc | apply pw_below_drewN | apply below_drew1 | refine below_set ?_ GE151.out) | exact HB.out))) | (with_reducible refine Kd.C_alloc ?_ _) | (with_reducible refine Kd.C_drewN ?_ _) | (with_reducible refine Kd.C_drew ?_))); (case side2 => exact HC0_1.out); rintro e w' ⟨rfl, ⟨nd, rfl⟩⟩; refine ⟨_, rfl, ?_⟩))
      go_ret
      exact ⟨by first | rfl | (simp [errW_none, errW_some] <;> rfl) | (simp [*, errW_none, errW_some] <;> rfl), by repeat (first | (with_reducible first | exact HB.out | apply below_alloc | apply pw_below_drewN | apply below_drew1 | refine below_set ?_ GE151.out) | exact HB.out)⟩
    · rw [if_neg c8] at H
      have c8b0 : decide (t153 < 0) = false := decide_eq_false c8
      clear c8
      obtain rfl := Option.some.inj H
      go_enter Try.func51, Try.ntmps51
      go_wp2_with (first | ((with_reducible refine gate_dst (N := 2) rfl ?_); refine box_event ?hg (N := 2) ?hd (cs := #[.slice A0_0 l0_0.length c0_0, .slice A0_1 l0_1.length c0_1]) (t := 71) ?hr ?_; (case hd => rfl); (case hg => rfl); (case hr => first | (go_simp; done) | (go_simp; rfl)); intro gb151 hg w11 hbox hb; have n0_ := Aside0.mk (below_step (by repeat (first | (with_reducible first | exact HB.out | apply below_alloc | apply pw_below_drewN | apply below_drew1) | exact HB.out)) hb); have n1_ := Aside0.mk (hbox); have n2_ := Aside0.mk ((by rw [hg]; exact (below_size (by repeat (first | (with_reducible first | exact HB.out | apply below_alloc | apply pw_below_drewN | apply below_drew1) | exact HB.out))) : w.heap.size ≤ gb151)); have n3_ := Aside0.mk ((by rw [hg]; exact (below_size (by repeat (first | (with_reducible first | exact HB.out | apply below_alloc | apply pw_below_drewN | apply below_drew1) | exact HB.out))) : w.heap.size ≤ gb151)); clear HB; have HB := n0_; have BK151 := n1_; have GW151 := n2_; have GE151 := n3_; clear n0_ n1_ n2_ n3_; clear hb hbox hg; have hcz12_0 : w11.cell? ⟨gb151, 0, none⟩ = some (.slice A0_0 l0_0.length c0_0) := (blk_cell BK151.out 0).trans rfl; have hcz12_1 : w11.cell? ⟨gb151, 1, none⟩ = some (.slice A0_1 l0_1.length c0_1) := (blk_cell BK151.out 1).trans rfl; have hfz12_0 := blk_frozen BK151.out 0; have hfz12_1 := blk_frozen BK151.out 1) | ((with_reducible refine gate_callee (f := 37) rfl ?_); refine goesL_ (some 8) rfl rfl Try.func37 (by kernel_rfl) rfl #[.slice A0_0 l0_0.length c0_0, .int .i64 a1] rfl (by (try simp only [List.map_toArray, List.map_cons, List.map_nil]); first | done | rfl | (simp only [List.length_drop, List.length_take]; rfl)) ?_; (with_reducible refine (laws_szByteSS.calls k _ _ l0_0 a1 t152 _ ?side1 ?side2 A3.out).mono ?_); (case side1 => repeat (first | exact (Kd.C_below HR0_0.out HB.out) | (with_reducible refine Kd.C_alloc ?_ _) | (with_reducible refine Kd.C_drewN ?_ _) | (with_reducible refine Kd.C_drew ?_))); (case side2 => exact HC0_0.out); rintro e w' ⟨rfl, ⟨nd, rfl⟩⟩; refine ⟨_, rfl, ?_⟩) | ((with_reducible refine gate_callee (f := 37) rfl ?_); refine goesL_ (some 14) rfl rfl Try.func37 (by kernel_rfl) rfl #[.slice A0_1 l0_1.length c0_1, .int .i64 t152] rfl (by (try simp only [List.map_toArray, List.map_cons, List.map_nil]); first | done | rfl | (simp only [List.length_drop, List.length_take]; rfl)) ?_; (with_reducible refine (laws_szByteSS.calls k _ _ l0_1 t152 t153 _ ?side1 ?side2 A7.out).mono ?_); (case side1 => repeat (first | exact (Kd.C_below HR0_1.out (by repeat (first | (with_reducible first | exact HB.out | apply below_alloc | apply pw_below_drewN | apply below_drew1 | refine below_set ?_ GE151.out) | exact HB.out))) | (with_reducible refine Kd.C_alloc ?_ _) | (with_reducible refine Kd.C_drewN ?_ _) | (with_reducible refine Kd.C_drew ?_))); (case side2 => exact HC0_1.out); rintro e w' ⟨rfl, ⟨nd, rfl⟩⟩; refine ⟨_, rfl, ?_⟩))
      go_ret
      exact ⟨by first | rfl | (simp [errW_none, errW_some] <;> rfl) | (simp [*, errW_none, errW_some] <;> rfl), by repeat (first | (with_reducible first | exact HB.out | apply below_alloc | apply pw_below_drewN | apply below_drew1 | refine below_set ?_ GE151.out) | exact HB.out)⟩
end Go.Proofs.Ytmgmdnmfalepkaa.L
