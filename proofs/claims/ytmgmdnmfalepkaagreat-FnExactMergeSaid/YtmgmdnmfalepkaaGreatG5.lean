/- Parts of the proof (see the row's own text): HelpB, HelpBB, HelpI, HelpII, Sz, Lszt, HelpSta, Rep0. -/
import Derived.Test.YtmgmdnmfalepkaaGreatG00
import Derived.Test.YtmgmdnmfalepkaaGreatG2
import Derived.Test.YtmgmdnmfalepkaaGreatG4
import Derived.Laws.CopyOwn
import Derived.Lib.SliceRun
namespace Go.Proofs.YtmgmdnmfalepkaaGreat.HelpB
open Go.RowKit Go.Proofs.YtmgmdnmfalepkaaGreatW.PrintWords Go.Proofs.YtmgmdnmfalepkaaGreatW.PrintMore Go.Proofs.YtmgmdnmfalepkaaGreat.Kit Go.Proofs.YtmgmdnmfalepkaaGreat.PKit Go.Proofs.YtmgmdnmfalepkaaGreat.Ty
open Go.Proofs.YtmgmdnmfalepkaaGreat.L
set_option linter.unusedVariables false
abbrev tB : Ty (List Int) := Ty.row (Kd.int .u8) 5
def markB (a : Int) : List Int → List Int
 | [] => []
 | _ :: r => (a % 256) :: markB (a + 1) r
abbrev cntB (x : List Int) : Nat := x.length
abbrev bdB (x : List Int) : Prop := x.length ≤ 1099511627776
theorem to_ev (l : List Int) (hl : l.length ≤ 35184372088832) : Ev (fun k => laws_toByteS.f k l) l := by
 have key : ∀ (d i : Nat) (out : List Int), i + d = l.length → out.length = l.length → out.take i = l.take i → Ev (fun k => laws_toByteS.l0 k l out i) l := by
  intro d
  induction d with
  | zero =>
   intro i out hd ho ht
   rw [List.take_of_length_le zq1, List.take_of_length_le zq1] at ht
   subst ht
   refine Ev.step (f := fun _ => some out) (fun k => ?_) (Ev.now _)
   simp only [laws_toByteS.l0]
   rw [if_neg zq1]
  | succ d ih =>
   intro i out hd ho ht
   refine Ev.step (f := fun k => laws_toByteS.l0 k l (out.set i (rd l i)) ((i + 1 : Nat) : Int)) (fun k => ?_) (ih (i + 1) _ zq1 (by simp [ho]) (set_take l out i _ zq1 ho ht ?_))
   ·simp only [laws_toByteS.l0]
    rw [if_pos zq1, if_pos zq1, if_pos zq1, wrap_succ i zq1, Int.toNat_natCast]
   ·rw [rd_get l i zq1, List.getElem?_eq_getElem zq1]
 refine Ev.congr (fun k => ?_) (key l.length 0 (List.replicate l.length 0) zq1 zq12 zq12)
 simp only [laws_toByteS.f]
 rw [if_pos zq1, if_pos zq1, Int.toNat_natCast]
 rfl
theorem eq_ev (l : List Int) (hl : l.length ≤ 35184372088832) : Ev (fun k => laws_eqByteS.f k l l) true := by
 have key : ∀ (d i : Nat), i + d = l.length → Ev (fun k => laws_eqByteS.l0 k l l i) true := by
  intro d
  induction d with
  | zero =>
   intro i hd
   refine Ev.step (f := fun _ => some true) (fun k => ?_) (Ev.now _)
   simp only [laws_eqByteS.l0]
   rw [if_neg zq1]
  | succ d ih =>
   intro i hd
   refine Ev.step (f := fun k => laws_eqByteS.l0 k l l ((i + 1 : Nat) : Int)) (fun k => ?_) (ih (i + 1) zq1)
   simp only [laws_eqByteS.l0]
   rw [if_pos zq1, if_pos zq1, if_pos zq1, if_pos trivial, wrap_succ i zq1]
 refine Ev.congr (fun k => ?_) (key l.length 0 zq1)
 simp only [laws_eqByteS.f]
 rw [if_pos trivial]
 rfl
theorem mark_ev (l : List Int) (a : Int) (a0 : 0 ≤ a) (a1 : a + l.length ≤ 1099511627776) : Ev (fun k => laws_markByteS.f k l a) (a + l.length, markB a l) := by
 have key : ∀ (r : List Int) (p : List Int) (b : Int), 0 ≤ b → b + r.length ≤ 1099511627776 → p.length + r.length ≤ 1099511627776 → Ev (fun k => laws_markByteS.l0 k (p ++ r) b (p.length : Int)) (b + r.length, p ++ markB b r) := by
  intro r
  induction r with
  | nil =>
   intro p b b0 b1 hp
   refine Ev.step (f := fun _ => some (b, p)) (fun k => ?_) ?_
   ·simp only [laws_markByteS.l0]
    rw [if_neg zq12, List.append_nil]
   ·have e : (b + ((([] : List Int).length : Nat) : Int), p ++ markB b []) = (b, p) := by simp [markB]
    rw [e]
    exact Ev.now _
  | cons x r ih =>
   intro p b b0 b1 hp
   simp only [List.length_cons] at b1 hp
   have h := ih (p ++ [b % 256]) (b + 1) zq1 zq1 zq35
   have e : (b + 1 + (r.length : Int), p ++ [b % 256] ++ markB (b + 1) r) = (b + (((x :: r).length : Nat) : Int), p ++ markB b (x :: r)) := by
    simp only [markB, List.length_cons, List.append_assoc, List.singleton_append]
    congr 1
    omega
   rw [e] at h
   refine Ev.step (fun k => ?_) h
   simp only [laws_markByteS.l0]
   rw [if_pos zq35, if_pos zq1, Int.toNat_natCast, wrap_in (x := b + 1) zq1, wrap_succ _ zq1]
   have e2 : (p ++ x :: r).set p.length (b % 256) = p ++ [b % 256] ++ r := by
    rw [List.set_append_right _ _ (Nat.le_refl _), Nat.sub_self]
    simp
   rw [e2]
   simp only [List.length_append, List.length_cons, List.length_nil]
 have h := key l [] a a0 a1 zq35
 exact Ev.congr (fun k => by simp only [laws_markByteS.f]; rfl) h
theorem held_ev (l : List Int) (a : Int) (a0 : 0 ≤ a) (a1 : a + l.length ≤ 1099511627776) : Ev (fun k => laws_heldByteS.f k (markB a l) a) (a + l.length) := by
 have key : ∀ (r : List Int) (p : List Int) (b : Int), 0 ≤ b → b + r.length ≤ 1099511627776 → p.length + r.length ≤ 1099511627776 → Ev (fun k => laws_heldByteS.l0 k (p ++ markB b r) b (p.length : Int)) (b + r.length) := by
  intro r
  induction r with
  | nil =>
   intro p b b0 b1 hp
   have e : (b + ((([] : List Int).length : Nat) : Int)) = b := by simp
   rw [e]
   refine Ev.step (f := fun _ => some b) (fun k => ?_) (Ev.now _)
   simp only [laws_heldByteS.l0]
   rw [if_neg (by simp [markB])]
  | cons x r ih =>
   intro p b b0 b1 hp
   simp only [List.length_cons] at b1 hp
   have h := ih (p ++ [b % 256]) (b + 1) zq1 zq1 zq35
   have e : (b + 1 + (r.length : Int)) = (b + (((x :: r).length : Nat) : Int)) := by simp only [List.length_cons]; omega
   rw [e, List.append_assoc] at h
   refine Ev.step (fun k => ?_) h
   simp only [laws_heldByteS.l0]
   have hg : rd (p ++ markB b (x :: r)) (p.length : Int) = b % 256 := by simp [rd, markB]
   rw [if_pos (by simp [markB]; omega), if_pos zq1, hg, if_pos rfl, wrap_in (x := b + 1) zq1, wrap_succ _ zq1]
   simp only [List.length_append, List.length_cons, List.length_nil]
   rfl
 have h := key l [] a a0 a1 zq35
 exact Ev.congr (fun k => by simp only [laws_heldByteS.f]; rfl) h
theorem mark_calls (x : List Int) (v : Value) (ok : Nat → Prop) (a : Int) (w0 w : World) (hB : Below w0.heap.size w0 w) (h : tB.M w w0.heap.size ok x v) (a0 : 0 ≤ a) (a1 : a + cntB x ≤ 1099511627776) (_hl : bdB x) :
  Calls Tryz.prog 14 #[v, .int .i64 a] w fun e w' => e = .returned (.int .i64 (a + cntB x)) ∧ tB.M w' w0.heap.size ok (markB a x) v ∧ Below w0.heap.size w0 w' ∧ Kept w w' ok := by
 obtain ⟨k, hk⟩ := (mark_ev x a a0 a1).rounds
 have h : Kd.R (Kd.int .u8) 5 w w0.heap.size ok v x := h
 refine (laws_markByteS.calls k ok v x a _ _ w0 w hB h hk).mono ?_
 rintro e w' ⟨rfl, h1, h2, h3⟩
 refine ⟨rfl, ?_, h2, h3⟩
 exact Kd.R_mono (Kd.R_tight rfl h1) (fun k hk => h.1 k hk.symm)
end Go.Proofs.YtmgmdnmfalepkaaGreat.HelpB

namespace Go.Proofs.YtmgmdnmfalepkaaGreat.HelpBB
open Go.RowKit Go.Proofs.YtmgmdnmfalepkaaGreatW.PrintWords Go.Proofs.YtmgmdnmfalepkaaGreatW.PrintMore Go.Proofs.YtmgmdnmfalepkaaGreat.Kit Go.Proofs.YtmgmdnmfalepkaaGreat.PKit Go.Proofs.YtmgmdnmfalepkaaGreat.Ty Go.Proofs.YtmgmdnmfalepkaaGreat.HelpB
open Go.Proofs.YtmgmdnmfalepkaaGreat.L
set_option linter.unusedVariables false
abbrev kB := Kd.slice 5 (Kd.int .u8)
abbrev tBB : Ty (List (List Int)) := Ty.rows kB 25
def totalB : List (List Int) → Nat
 | [] => 0
 | x :: r => x.length + totalB r
abbrev cntBB (x : List (List Int)) : Nat := totalB x
abbrev bdBB (x : List (List Int)) : Prop := x.length ≤ 1099511627776 ∧ totalB x ≤ 1099511627776
abbrev smallBB (x : List (List Int)) : Prop := x.length + totalB x ≤ 1048576
theorem bd_small {x : List (List Int)} (h : smallBB x) : bdBB x := ⟨by have : x.length + totalB x ≤ 1048576 := h; omega, by have : x.length + totalB x ≤ 1048576 := h; omega⟩
def markBB (a : Int) : List (List Int) → List (List Int)
 | [] => []
 | x :: r => markB a x :: markBB (a + x.length) r
def part (a : Int) (xs : List (List Int)) (i : Nat) : List (List Int) := markBB a (xs.take i) ++ xs.drop i
theorem markBB_len (xs : List (List Int)) : ∀ a, (markBB a xs).length = xs.length := by
 induction xs with
 | nil => intro a; rfl
 | cons x r ih => intro a; simp [markBB, ih]
theorem mark_snoc (xs : List (List Int)) (x : List Int) : ∀ a, markBB a (xs ++ [x]) = markBB a xs ++ [markB (a + totalB xs) x] := by
 induction xs with
 | nil => intro a; simp [markBB, totalB]
 | cons y r ih =>
  intro a
  simp only [List.cons_append, markBB, ih, totalB]
  congr 4
  omega
theorem total_snoc (xs : List (List Int)) (x : List Int) : totalB (xs ++ [x]) = totalB xs + x.length := by
 induction xs with
 | nil => simp [totalB]
 | cons y r ih => simp only [List.cons_append, totalB, ih]; omega
theorem total_append (xs ys : List (List Int)) : totalB (xs ++ ys) = totalB xs + totalB ys := by
 induction xs with
 | nil => simp [totalB]
 | cons y r ih => simp only [List.cons_append, totalB, ih]; omega
theorem take_snoc (xs : List (List Int)) (i : Nat) (hi : i < xs.length) : xs.take (i + 1) = xs.take i ++ [xs.getD i []] := by
 rw [List.take_succ_eq_append_getElem hi]
 simp [List.getD, List.getElem?_eq_getElem hi]
theorem part_get (a : Int) (xs : List (List Int)) (i : Nat) (hi : i < xs.length) : (part a xs i).getD i [] = xs.getD i [] := by
 unfold part
 have hl : (markBB a (xs.take i)).length = i := by rw [markBB_len, List.length_take]; omega
 simp only [List.getD]
 rw [List.getElem?_append_right zq1, hl, Nat.sub_self, List.getElem?_drop]
 rfl
theorem part_set (a : Int) (xs : List (List Int)) (i : Nat) (hi : i < xs.length) : (part a xs i).set i (markB (a + totalB (xs.take i)) (xs.getD i [])) = part a xs (i + 1) := by
 unfold part
 have hl : (markBB a (xs.take i)).length = i := by rw [markBB_len, List.length_take]; omega
 rw [List.set_append_right _ _ zq1, hl, Nat.sub_self, take_snoc xs i hi, mark_snoc, List.append_assoc]
 have hd : xs.drop i = xs.getD i [] :: xs.drop (i + 1) := by
  rw [List.drop_eq_getElem_cons hi]
  simp [List.getD, List.getElem?_eq_getElem hi]
 rw [hd]
 rfl
theorem total_take (xs : List (List Int)) (i : Nat) : totalB (xs.take i) ≤ totalB xs := by
 induction xs generalizing i with
 | nil => simp [totalB]
 | cons x r ih =>
  cases i with
  | zero => simp [totalB]
  | succ i => simp only [List.take_succ_cons, totalB]; have := ih i; omega
theorem total_mem {xs : List (List Int)} {x : List Int} (h : x ∈ xs) : x.length ≤ totalB xs := by
 induction xs with
 | nil => cases h
 | cons y r ih =>
  simp only [totalB]
  rcases List.mem_cons.1 h with e | h
  ·subst e; omega
  ·have := ih h; omega
theorem rdL_mem (xs : List (List Int)) (i : Nat) (h : i < xs.length) : rd_L1 xs (i : Int) ∈ xs := by
 have e : rd_L1 xs (i : Int) = xs[i] := by simp [rd_L1, List.getD, List.getElem?_eq_getElem h]
 rw [e]
 exact List.getElem_mem _
theorem to_ev (l : List (List Int)) (hl : l.length ≤ 11728124029610) (hx : totalB l ≤ 35184372088832) : Ev (fun k => laws_toByteSS.f k l) l := by
 have key : ∀ (d i : Nat) (out : List (List Int)), i + d = l.length → out.length = l.length → out.take i = l.take i → Ev (fun k => laws_toByteSS.l0 k l out i) l := by
  intro d
  induction d with
  | zero =>
   intro i out hd ho ht
   rw [List.take_of_length_le zq1, List.take_of_length_le zq1] at ht
   subst ht
   refine Ev.step (f := fun _ => some out) (fun k => ?_) (Ev.now _)
   simp only [laws_toByteSS.l0]
   rw [if_neg zq1]
  | succ d ih =>
   intro i out hd ho ht
   have hm := rdL_mem l i zq1
   obtain ⟨K1, g1⟩ := HelpB.to_ev (rd_L1 l (i : Int)) (by have := total_mem hm; omega)
   obtain ⟨K2, g2⟩ := ih (i + 1) (out.set i (rd_L1 l (i : Int))) zq1 (by simp [ho]) (set_take l out i _ zq1 ho ht (by simp [rd_L1, List.getD, List.getElem?_eq_getElem (show i < l.length by omega)]))
   refine ⟨K1 + K2 + 1, fun n hn => ?_⟩
   obtain ⟨n, rfl⟩ : ∃ m, n = m + 1 := ⟨n - 1, zq1⟩
   have g1' := g1 n zq1
   have g2' := g2 n zq1
   simp only at g1' g2'
   simp only [laws_toByteSS.l0]
   rw [if_pos zq1, if_pos zq1, g1', Option.bind_some, if_pos zq1, wrap_succ i zq1, Int.toNat_natCast, g2']
 refine Ev.congr (fun k => ?_) (key l.length 0 (List.replicate l.length []) zq1 zq12 zq12)
 simp only [laws_toByteSS.f]
 rw [if_pos zq1, if_pos zq1, Int.toNat_natCast]
 rfl
theorem eq_ev (xs : List (List Int)) (hl : xs.length ≤ 1099511627776) (ht : totalB xs ≤ 35184372088832) : Ev (fun k => laws_eqByteSS.f k xs xs) true := by
 have key : ∀ (d i : Nat), i + d = xs.length → Ev (fun k => laws_eqByteSS.l0 k xs xs i) true := by
  intro d
  induction d with
  | zero =>
   intro i hd
   refine Ev.step (f := fun _ => some true) (fun k => ?_) (Ev.now _)
   simp only [laws_eqByteSS.l0]
   rw [if_neg zq1]
  | succ d ih =>
   intro i hd
   obtain ⟨K1, g1⟩ := HelpB.eq_ev (rd_L1 xs (i : Int)) (by have := total_mem (rdL_mem xs i zq1); omega)
   obtain ⟨K2, g2⟩ := ih (i + 1) zq1
   refine ⟨K1 + K2 + 1, fun n hn => ?_⟩
   obtain ⟨n, rfl⟩ : ∃ m, n = m + 1 := ⟨n - 1, zq1⟩
   have g1' := g1 n zq1
   have g2' := g2 n zq1
   simp only at g1' g2'
   simp only [laws_eqByteSS.l0]
   rw [if_pos zq1, if_pos zq1, if_pos zq1, g1', Option.bind_some, if_pos rfl, wrap_succ i zq1, g2']
 refine Ev.congr (fun k => ?_) (key xs.length 0 zq1)
 simp only [laws_eqByteSS.f]
 rw [if_pos trivial]
 rfl
theorem held_ev (xs : List (List Int)) (a : Int) (a0 : 0 ≤ a) (a1 : a + totalB xs ≤ 1099511627776) (hl : xs.length ≤ 1099511627776) : Ev (fun k => laws_heldByteSS.f k (markBB a xs) a) (a + totalB xs) := by
 have key : ∀ (r : List (List Int)) (p : List (List Int)) (b : Int), 0 ≤ b → b + totalB r ≤ 1099511627776 → p.length + r.length ≤ 1099511627776 → Ev (fun k => laws_heldByteSS.l0 k (p ++ markBB b r) b (p.length : Int)) (b + totalB r) := by
  intro r
  induction r with
  | nil =>
   intro p b b0 b1 hp
   have e : (b + ((totalB [] : Nat) : Int)) = b := by simp [totalB]
   rw [e]
   refine Ev.step (f := fun _ => some b) (fun k => ?_) (Ev.now _)
   simp only [laws_heldByteSS.l0]
   rw [if_neg (by simp [markBB])]
  | cons x r ih =>
   intro p b b0 b1 hp
   simp only [List.length_cons, totalB] at b1 hp
   obtain ⟨K2, g2⟩ := ih (p ++ [markB b x]) (b + x.length) zq1 zq1 zq35
   obtain ⟨K1, g1⟩ := HelpB.held_ev x b b0 zq1
   refine ⟨K1 + K2 + 1, fun n hn => ?_⟩
   obtain ⟨n, rfl⟩ : ∃ m, n = m + 1 := ⟨n - 1, zq1⟩
   have g1' := g1 n zq1
   have g2' := g2 n zq1
   simp only at g1' g2'
   simp only [laws_heldByteSS.l0]
   have hg : rd_L1 (p ++ markBB b (x :: r)) (p.length : Int) = markB b x := by simp [rd_L1, markBB]
   rw [if_pos (by simp [markBB]; omega), if_pos zq1, hg, g1', Option.bind_some, if_neg zq1, wrap_succ _ zq1]
   have e1 : p ++ markBB b (x :: r) = p ++ [markB b x] ++ markBB (b + x.length) r := by simp [markBB]
   have e2 : ((p.length + 1 : Nat) : Int) = (((p ++ [markB b x]).length : Nat) : Int) := by simp
   rw [e1, e2, g2']
   simp only [totalB]
   congr 1
   omega
 have h := key xs [] a a0 a1 zq35
 exact Ev.congr (fun k => by simp only [laws_heldByteSS.f]; rfl) h
theorem to_calls (x : List (List Int)) (v : Value) (w : World) (h : tBB.K w x v) (hb : bdBB x) :
  Calls Tryz.prog 26 #[v] w fun e w' => ∃ v', e = .returned v' ∧ tBB.M w' w.heap.size (fun _ => True) x v' ∧ Grew w w' := by
 obtain ⟨hl, ht⟩ := hb
 obtain ⟨A, c, rfl, hc, hr⟩ := h
 obtain ⟨k, hk⟩ := (to_ev x zq1 zq1).rounds
 exact laws_toByteSS.calls k A c x x w hr hc hk
theorem eq_calls (x : List (List Int)) (v v' : Value) (w : World) (h : tBB.K w x v) (h' : tBB.K w x v') (hb : bdBB x) :
  Calls Tryz.prog 30 #[v, v'] w fun e w' => e = .returned (.bool true) ∧ Grew w w' := by
 obtain ⟨hl, ht⟩ := hb
 obtain ⟨A, c, rfl, hc, hr⟩ := h
 obtain ⟨A', c', rfl, hc', hr'⟩ := h'
 obtain ⟨k, hk⟩ := (eq_ev x zq1 zq1).rounds
 refine (laws_eqByteSS.calls k A c x A' c' x true w hr hc hr' hc' hk).mono ?_
 rintro e w' ⟨rfl, h2⟩
 exact ⟨rfl, h2.below⟩
set_option maxRecDepth 100000 in
set_option maxHeartbeats 2000000 in
theorem mark_calls (xs : List (List Int)) (v : Value) (ok : Nat → Prop) (a : Int) (w0 w : World) (hB : Below w0.heap.size w0 w) (h : tBB.M w w0.heap.size ok xs v) (a0 : 0 ≤ a) (a1 : a + cntBB xs ≤ 1099511627776) (hb : bdBB xs) :
  Calls Tryz.prog 31 #[v, .int .i64 a] w fun e w' => e = .returned (.int .i64 (a + cntBB xs)) ∧ tBB.M w' w0.heap.size ok (markBB a xs) v ∧ Below w0.heap.size w0 w' ∧ Kept w w' ok := by
 have h : Kd.S kB 25 w w0.heap.size ok v xs := h
 obtain ⟨hlen, _⟩ := hb
 by_cases hz : xs.length = 0
 ·obtain rfl := List.length_eq_zero_iff.1 hz
  obtain ⟨A, c, rfl⟩ := Kd.S_slice h
  have HH := zA h
  have HB := zA hB
  clear h hB hz hlen
  simp only [List.length_nil]
  go_enter Tryz.func31, Tryz.ntmps31
  go_wp2
  go_loopg [1, 5] 0 (fun gg s1 s5 wr => s1 = .int .i64 a ∧ s5 = .int .i64 0 ∧ wr = w)
  case atStart => exact ⟨rfl, rfl, rfl⟩
  case round =>
   obtain ⟨rfl, rfl, rfl⟩ := hrel
   go_wp2
   go_ret
   exact ⟨by simp [totalB], HH.out, HB.out, Kept.refl _ _⟩
 ·obtain ⟨g, cap, rfl, _, _, _⟩ := Kd.S_form h zq1
  have HH := zA h
  have HB0 := zA hB
  have HL := zA (show a + (totalB xs : Int) ≤ 1099511627776 from a1)
  clear h hB
  go_enter Tryz.func31, Tryz.ntmps31
  go_wp2
  go_loopg [1, 5] xs.length (fun gg s1 s5 wr => ∃ i : Nat, i ≤ xs.length ∧ xs.length - i ≤ gg ∧ s1 = .int .i64 (a + totalB (xs.take i)) ∧ s5 = .int .i64 i ∧ Aside0 (Kd.S kB 25 wr w0.heap.size ok (.slice (some ⟨g, 0, none⟩) xs.length cap) (part a xs i)) ∧ Aside0 (Below w0.heap.size w0 wr) ∧ Aside0 (Kept w wr ok))
  case atStart => exact ⟨0, zq1, zq1, by simp [totalB], rfl, ⟨HH.out⟩, ⟨HB0.out⟩, ⟨Kept.refl _ _⟩⟩
  case round =>
   obtain ⟨i, hi, hg, rfl, rfl, HS, HB, HK⟩ := hrel
   by_cases hlt : i < xs.length
   ·have hltz : (i : Int) < (xs.length : Int) := by omega
    obtain ⟨oki, c, hcl, hM, hcell, hoki, hH⟩ := Kd.S_lend HS.out [] (i : Int) zq1 zq1
    rw [Int.toNat_natCast, part_get a xs i hlt] at hM
    obtain ⟨u, rfl, hR⟩ := hM
    have hc0 := hcell 0 u rfl
    rw [Int.toNat_natCast] at hc0
    have hc1 : wr.cell? ⟨g, i, none⟩ = some u := by simpa [kB, Kd.slice] using hc0
    have htt := total_take xs (i + 1)
    rw [take_snoc xs i hlt, total_snoc] at htt
    have hcall := HelpB.mark_calls (xs.getD i []) u oki (a + totalB (xs.take i)) w0 wr HB.out hR zq1 (by have := HL.out; show a + (totalB (xs.take i) : Int) + ((xs.getD i []).length : Int) ≤ _; omega) (by have := HL.out; show (xs.getD i []).length ≤ _; omega)
    have HH2 := zA hH
    have HO := zA hoki
    clear hcell hc0 hH hoki hR
    generalize hx : xs.getD i [] = x at hcall htt
    have HX := zA hx
    clear hx
    go_wp2_with (go_at_call 14; refine hcall.mono ?_; rintro e w' ⟨rfl, hR', hB', hK'⟩)
    go_roundg (xs.length - (i + 1))
    case measure => omega
    case rel =>
     refine ⟨i + 1, zq1, zq1, ?_, by go_num, ⟨?_⟩, ⟨hB'⟩, ⟨HK.out.then_ hK' (fun k hk => .inl (HO.out k hk).1)⟩⟩
     ·show Value.int .i64 (a + (totalB (xs.take i) : Int) + (x.length : Int)) = _
      rw [take_snoc xs i hlt, total_snoc, HX.out]
      congr 1
      omega
     ·have h1 := Kd.H_back (Kd.H_step HH2.out (fun k hk hn hl => hK'.2 k hl hn)) (x' := markB (a + totalB (xs.take i)) x) ⟨u, rfl, hR'⟩ (fun _ hk => hk)
      rw [Int.toNat_natCast, ← HX.out, part_set a xs i hlt] at h1
      exact h1
   ·obtain rfl : i = xs.length := by omega
    go_wp2
    go_ret
    refine ⟨by rw [List.take_length]; rfl, ?_, HB.out, HK.out⟩
    have := HS.out
    unfold part at this
    rw [List.take_length, List.drop_length, List.append_nil] at this
    exact this
theorem held_calls (xs : List (List Int)) (v : Value) (a : Int) (w : World) (h : tBB.K w (markBB a xs) v) (a0 : 0 ≤ a) (a1 : a + cntBB xs ≤ 1099511627776) (hb : bdBB xs) :
  Calls Tryz.prog 32 #[v, .int .i64 a] w fun e w' => e = .returned (.int .i64 (a + cntBB xs)) ∧ Grew w w' := by
 obtain ⟨A, c, rfl, hc, hr⟩ := h
 obtain ⟨k, hk⟩ := (held_ev xs a a0 a1 hb.1).rounds
 refine (laws_heldByteSS.calls k A c (markBB a xs) a _ w hr hc hk).mono ?_
 rintro e w' ⟨rfl, h2⟩
 exact ⟨rfl, h2.below⟩
end Go.Proofs.YtmgmdnmfalepkaaGreat.HelpBB

namespace Go.Proofs.YtmgmdnmfalepkaaGreat.HelpI
open Go.RowKit Go.Proofs.YtmgmdnmfalepkaaGreatW.PrintWords Go.Proofs.YtmgmdnmfalepkaaGreatW.PrintMore Go.Proofs.YtmgmdnmfalepkaaGreat.Kit Go.Proofs.YtmgmdnmfalepkaaGreat.PKit Go.Proofs.YtmgmdnmfalepkaaGreat.Ty
open Go.Proofs.YtmgmdnmfalepkaaGreat.L
set_option linter.unusedVariables false
abbrev tI : Ty (List Int) := Ty.row (Kd.int .i64) 3
end Go.Proofs.YtmgmdnmfalepkaaGreat.HelpI

namespace Go.Proofs.YtmgmdnmfalepkaaGreat.HelpII
open Go.RowKit Go.Proofs.YtmgmdnmfalepkaaGreatW.PrintWords Go.Proofs.YtmgmdnmfalepkaaGreatW.PrintMore Go.Proofs.YtmgmdnmfalepkaaGreat.Kit Go.Proofs.YtmgmdnmfalepkaaGreat.PKit Go.Proofs.YtmgmdnmfalepkaaGreat.Ty Go.Proofs.YtmgmdnmfalepkaaGreat.HelpI
open Go.Proofs.YtmgmdnmfalepkaaGreat.L
set_option linter.unusedVariables false
abbrev kI := Kd.slice 3 (Kd.int .i64)
abbrev tII : Ty (List (List Int)) := Ty.rows kI 56
def totalI : List (List Int) → Nat
 | [] => 0
 | x :: r => x.length + totalI r
theorem total_mem {xs : List (List Int)} {x : List Int} (h : x ∈ xs) : x.length ≤ totalI xs := by
 induction xs with
 | nil => cases h
 | cons y r ih =>
  simp only [totalI]
  rcases List.mem_cons.1 h with e | h
  ·subst e; omega
  ·have := ih h; omega
end Go.Proofs.YtmgmdnmfalepkaaGreat.HelpII

namespace Go.Proofs.YtmgmdnmfalepkaaGreat.Ty
open Go.RowKit Go.Proofs.YtmgmdnmfalepkaaGreatW.PrintWords Go.Proofs.YtmgmdnmfalepkaaGreatW.PrintMore Go.Proofs.YtmgmdnmfalepkaaGreat.Kit Go.Proofs.YtmgmdnmfalepkaaGreat.PKit
set_option linter.unusedVariables false
theorem gate_args {P : Program} {f : FuncId} {args : Array Value} {w : World} {Q : Ending → World → Prop} (as_ : Array Value) (_h : args = as_) (h : Calls P f args w Q) : Calls P f args w Q := h
theorem Ty.M_set {α : Type} {T : Ty α} {w : World} {base : Nat} {ok : Nat → Prop} {x : α} {v : Value} (h : T.M w base ok x v) {g j : Nat} (hne : ∀ k, ok k → k = g → False) (u : Value) : T.M (w.setCell ⟨g, j, none⟩ u) base ok x v :=
 T.M_move (fun k hk => Below.heap_setCell w ⟨g, j, none⟩ u k (fun e => hne k hk e)) h
theorem Tys.M_one {α : Type} {a : Ty α} {w : World} {base : Nat} {ok : Nat → Prop} {x : α} {v : Value} (h : a.M w base ok x v) : (Tys.one a).M w base ok x [v] := ⟨v, rfl, h⟩
theorem Tys.cons_apart {α β : Type} {a : Ty α} {b : Tys β} {w : World} {base : Nat} {ok1 ok2 : Nat → Prop} {x : α} {y : β} {v : Value} {r : List Value} (h1 : a.M w base ok1 x v) (h2 : b.M w base ok2 y r) (hd : ∀ k, ok2 k → ok1 k → False) :
  (Tys.cons a b).M w base (fun k => ok1 k ∨ ok2 k) (x, y) (v :: r) :=
 ⟨v, r, ok1, ok2, rfl, fun _ h => .inl h, fun k h => ⟨.inr h, fun h' => hd k h h'⟩, h1, h2⟩
end Go.Proofs.YtmgmdnmfalepkaaGreat.Ty
namespace Go.Proofs.YtmgmdnmfalepkaaGreat.HelpBB
open Go.RowKit Go.Proofs.YtmgmdnmfalepkaaGreatW.PrintWords Go.Proofs.YtmgmdnmfalepkaaGreat.PKit Go.Proofs.YtmgmdnmfalepkaaGreat.L Go.Proofs.YtmgmdnmfalepkaaGreat.Ty
theorem lens {x : List (List Int)} (hK : ∃ w v, tBB.K w x v) : x.length ≤ 9223372036854775807 ∧ ∀ i, (x.getD i []).length ≤ 9223372036854775807 := by
 obtain ⟨w, v, A, c, rfl, hc, hr⟩ := hK
 refine ⟨hr.2.1, fun i => ?_⟩
 by_cases hi : i < x.length
 ·obtain ⟨ad, e, h⟩ := hr.2.2 zq1
  obtain ⟨cs, _, hK, _⟩ := h i (x.getD i []) (by simp [List.getD, List.getElem?_eq_getElem hi])
  obtain ⟨A', c', _, _, hr'⟩ := hK
  exact hr'.2.1
 ·simp [List.getD, List.getElem?_eq_none (Nat.le_of_not_lt hi)]
theorem sz_ev (x : List (List Int)) (left : Int) (h0 : 0 ≤ left) (h1 : left ≤ 1048576) (hK : ∃ w v, tBB.K w x v) :
  ∃ r, Ev (fun k => laws_szByteSS.f k x left) r ∧ (0 ≤ r → r + ((x.length + totalB x : Nat) : Int) = left) := by
 obtain ⟨hl, hi⟩ := lens hK
 have hb : -9223372036854775808 ≤ left - (x.length : Int) ∧ left - (x.length : Int) ≤ 9223372036854775807 := by omega
 by_cases hneg : left - (x.length : Int) < 0
 ·refine ⟨-1, Ev.congr (f := fun _ => some (-1)) (fun k => ?_) (Ev.now _), zq1⟩
  simp only [laws_szByteSS.f]
  rw [wrap_in hb, if_pos hneg]
 have key : ∀ (d i : Nat) (l : Int), i + d = x.length → 0 ≤ l → l ≤ 1048576 → ∃ r, Ev (fun k => laws_szByteSS.l0 k x l (i : Int)) r ∧ (0 ≤ r → r + ((totalB (x.drop i) : Nat) : Int) = l) := by
  intro d
  induction d with
  | zero =>
   intro i l hd l0 l1
   refine ⟨l, Ev.step (f := fun _ => some l) (fun k => ?_) (Ev.now _), fun _ => ?_⟩
   ·simp only [laws_szByteSS.l0]
    rw [if_neg zq1]
   ·rw [List.drop_of_length_le zq1]
    simp [totalB]
  | succ d ih =>
   intro i l hd l0 l1
   have hlt : i < x.length := by omega
   have hg : rd_L1 x (i : Int) = x.getD i [] := rfl
   have hli := hi i
   have hb2 : -9223372036854775808 ≤ l - ((x.getD i []).length : Int) ∧ l - ((x.getD i []).length : Int) ≤ 9223372036854775807 := by omega
   have hdr : x.drop i = x.getD i [] :: x.drop (i + 1) := by
    rw [List.drop_eq_getElem_cons hlt]
    simp [List.getD, List.getElem?_eq_getElem hlt]
   by_cases hn : l - ((x.getD i []).length : Int) < 0
   ·refine ⟨-1, Ev.step (f := fun _ => some (-1)) (fun k => ?_) (Ev.now _), zq1⟩
    simp only [laws_szByteSS.l0]
    rw [if_pos zq1, if_pos zq1, hg]
    simp only [laws_szByteS.f]
    rw [wrap_in hb2, if_pos hn, Option.bind_some, if_pos zq15]
   ·obtain ⟨r, hr, hq⟩ := ih (i + 1) (l - ((x.getD i []).length : Int)) zq1 zq1 zq1
    refine ⟨r, Ev.step (fun k => ?_) hr, fun h => ?_⟩
    ·simp only [laws_szByteSS.l0]
     rw [if_pos zq1, if_pos zq1, hg]
     simp only [laws_szByteS.f]
     rw [wrap_in hb2, if_neg hn, Option.bind_some, if_neg hn, wrap_succ i zq1]
    ·have := hq h
     rw [hdr]
     simp only [totalB]
     omega
 obtain ⟨r, hr, hq⟩ := key x.length 0 (left - (x.length : Int)) zq1 zq1 zq1
 refine ⟨r, Ev.congr (fun k => ?_) hr, fun h => ?_⟩
 ·simp only [laws_szByteSS.f]
  rw [wrap_in hb, if_neg hneg]
  rfl
 ·have := hq h
  rw [List.drop_zero] at this
  omega
end Go.Proofs.YtmgmdnmfalepkaaGreat.HelpBB
namespace Go.Proofs.YtmgmdnmfalepkaaGreat.HelpII
open Go.RowKit Go.Proofs.YtmgmdnmfalepkaaGreatW.PrintWords Go.Proofs.YtmgmdnmfalepkaaGreat.PKit Go.Proofs.YtmgmdnmfalepkaaGreat.L Go.Proofs.YtmgmdnmfalepkaaGreat.Ty
end Go.Proofs.YtmgmdnmfalepkaaGreat.HelpII
namespace Go.Proofs.YtmgmdnmfalepkaaGreat.HelpI
open Go.RowKit Go.Proofs.YtmgmdnmfalepkaaGreatW.PrintWords Go.Proofs.YtmgmdnmfalepkaaGreat.PKit Go.Proofs.YtmgmdnmfalepkaaGreat.L Go.Proofs.YtmgmdnmfalepkaaGreat.Ty
end Go.Proofs.YtmgmdnmfalepkaaGreat.HelpI

namespace Go.Proofs.YtmgmdnmfalepkaaGreat.L
open Go.RowKit Go.Proofs.YtmgmdnmfalepkaaGreatW.PrintWords Go.Proofs.YtmgmdnmfalepkaaGreatW.PrintLast Go.Proofs.YtmgmdnmfalepkaaGreatW.PrintMore
attribute [local go_sem] max2_int min2_int max_two min_two max_three min_three max_four min_four
set_option linter.unusedVariables false
set_option linter.unusedSimpArgs false
def laws_szState.f (k : Nat) (l0_0 : List (List Int)) (l0_1 : List (List Int)) (a1 : Int) : Option (Int) := (laws_szByteSS.f k l0_0 a1).bind fun t125 => (if t125 < 0 then (some (-1)) else ((laws_szByteSS.f k l0_1 t125).bind fun t126 => (if t126 < 0 then (some (-1)) else (some t126))))
theorem laws_szState.mono : ∀ a0 a1 a2 k, LeO (laws_szState.f k a0 a1 a2) (laws_szState.f (k + 1) a0 a1 a2) := by
 intro a0 a1 a2 k
 unfold laws_szState.f
 repeat' first
   | (with_reducible exact laws_szByteSS.mono _ _ _)
   | (with_reducible exact LeO.refl _)
   | (with_reducible exact LeO.none _)
   | (with_reducible refine LeO.ite ?_ ?_)
   | (with_reducible refine LeO.bind ?_ (fun _ => ?_))
   | exact laws_szByteSS.mono _ _ _
   | exact LeO.none _
   | refine LeO.ite ?_ ?_
   | refine LeO.bind ?_ (fun _ => ?_)
set_option maxHeartbeats 8000000 in
set_option maxRecDepth 100000 in
theorem laws_szState.calls (k : Nat) (A0_0 : Option Addr) (c0_0 : Nat) (l0_0 : List (List Int)) (A0_1 : Option Addr) (c0_1 : Nat) (l0_1 : List (List Int)) (a1 : Int) (r : Int) (w : World) (hr0_0 : Kd.C (Kd.slice 5 (Kd.int .u8)) w A0_0 l0_0.length l0_0) (hc0_0 : l0_0.length ≤ c0_0) (hr0_1 : Kd.C (Kd.slice 5 (Kd.int .u8)) w A0_1 l0_1.length l0_1) (hc0_1 : l0_1.length ≤ c0_1) (h : laws_szState.f k l0_0 l0_1 a1 = some r) :
  Calls Tryz.prog 6 #[.agg #[.slice A0_0 l0_0.length c0_0, .slice A0_1 l0_1.length c0_1], .int .i64 a1] w fun e w' => e = .returned (.int .i64 r) ∧ Below w.heap.size w w' := by
 have hu24 := Tryz.underlying24
 have HR0_0 := zA hr0_0
 have HC0_0 := zA hc0_0
 clear hr0_0 hc0_0
 have HR0_1 := zA hr0_1
 have HC0_1 := zA hc0_1
 clear hr0_1 hc0_1
 have HB := zA (Below.refl w.heap.size w)
 have H : ((laws_szByteSS.f k l0_0 a1).bind fun t125 => (if t125 < 0 then (some (-1)) else ((laws_szByteSS.f k l0_1 t125).bind fun t126 => (if t126 < 0 then (some (-1)) else (some t126))))) = some r := h
 clear h
 replace H := Option.bind_eq_some_iff.mp H
 obtain ⟨t125, A30, H⟩ := H
 replace H : (if t125 < 0 then (some (-1)) else ((laws_szByteSS.f k l0_1 t125).bind fun t126 => (if t126 < 0 then (some (-1)) else (some t126)))) = some r := H
 have A3 := zA A30
 clear A30
 by_cases c4 : t125 < 0
 ·rw [if_pos c4] at H
  have c4b0 : decide (t125 < 0) = true := decide_eq_true c4
  clear c4
  obtain rfl := Option.some.inj H
  go_enter Tryz.func6, Tryz.ntmps6
  go_wp2_with (first | ((with_reducible refine gate_dst (N := 2) rfl ?_); refine box_event ?hg (N := 2) ?hd (cs := #[.slice A0_0 l0_0.length c0_0, .slice A0_1 l0_1.length c0_1]) (t := 24) ?hr ?_; (case hd => rfl); (case hg => rfl); (case hr => first | (go_simp; done) | (go_simp; rfl)); intro gb124 hg w5 hbox hb; have n0_ := zA (below_step zq0 hb); have n1_ := zA (hbox); have n2_ := zA ((by rw [hg]; exact (below_size zq0) : w.heap.size ≤ gb124)); have n3_ := zA ((by rw [hg]; exact (below_size zq0) : w.heap.size ≤ gb124)); clear HB; have HB := n0_; have BK124 := n1_; have GW124 := n2_; have GE124 := n3_; clear n0_ n1_ n2_ n3_; clear hb hbox hg; have hcz6_0 : w5.cell? ⟨gb124, 0, none⟩ = some (.slice A0_0 l0_0.length c0_0) := (blk_cell BK124.out 0).trans rfl; have hcz6_1 : w5.cell? ⟨gb124, 1, none⟩ = some (.slice A0_1 l0_1.length c0_1) := (blk_cell BK124.out 1).trans rfl; have hfz6_0 := blk_frozen BK124.out 0; have hfz6_1 := blk_frozen BK124.out 1) | ((with_reducible refine gate_callee (f := 21) rfl ?_); refine goesL_ (some 8) rfl rfl Tryz.func21 zq5 rfl #[.slice A0_0 l0_0.length c0_0, .int .i64 a1] rfl zq6 ?_; (with_reducible refine (laws_szByteSS.calls k _ _ l0_0 a1 t125 _ ?side1 ?side2 A3.out).mono ?_); (case side1 => repeat (first | exact (Kd.C_below HR0_0.out HB.out) | (with_reducible refine Kd.C_alloc ?_ _) | (with_reducible refine Kd.C_drewN ?_ _) | (with_reducible refine Kd.C_drew ?_))); (case side2 => exact HC0_0.out); rintro e w' ⟨rfl, ⟨nd, rfl⟩⟩; refine ⟨_, rfl, ?_⟩))
  go_ret
  exact ⟨zq9, by repeat (first | (with_reducible first | exact HB.out | apply below_alloc | apply pw_below_drewN | apply below_drew1 | refine below_set ?_ GE124.out) | exact HB.out)⟩
 ·rw [if_neg c4] at H
  have c4b0 : decide (t125 < 0) = false := decide_eq_false c4
  clear c4
  replace H := Option.bind_eq_some_iff.mp H
  obtain ⟨t126, A70, H⟩ := H
  replace H : (if t126 < 0 then (some (-1)) else (some t126)) = some r := H
  have A7 := zA A70
  clear A70
  by_cases c8 : t126 < 0
  ·rw [if_pos c8] at H
   have c8b0 : decide (t126 < 0) = true := decide_eq_true c8
   clear c8
   obtain rfl := Option.some.inj H
   go_enter Tryz.func6, Tryz.ntmps6
   go_wp2_with (first | ((with_reducible refine gate_dst (N := 2) rfl ?_); refine box_event ?hg (N := 2) ?hd (cs := #[.slice A0_0 l0_0.length c0_0, .slice A0_1 l0_1.length c0_1]) (t := 24) ?hr ?_; (case hd => rfl); (case hg => rfl); (case hr => first | (go_simp; done) | (go_simp; rfl)); intro gb124 hg w9 hbox hb; have n0_ := zA (below_step zq0 hb); have n1_ := zA (hbox); have n2_ := zA ((by rw [hg]; exact (below_size zq0) : w.heap.size ≤ gb124)); have n3_ := zA ((by rw [hg]; exact (below_size zq0) : w.heap.size ≤ gb124)); clear HB; have HB := n0_; have BK124 := n1_; have GW124 := n2_; have GE124 := n3_; clear n0_ n1_ n2_ n3_; clear hb hbox hg; have hcz10_0 : w9.cell? ⟨gb124, 0, none⟩ = some (.slice A0_0 l0_0.length c0_0) := (blk_cell BK124.out 0).trans rfl; have hcz10_1 : w9.cell? ⟨gb124, 1, none⟩ = some (.slice A0_1 l0_1.length c0_1) := (blk_cell BK124.out 1).trans rfl; have hfz10_0 := blk_frozen BK124.out 0; have hfz10_1 := blk_frozen BK124.out 1) | ((with_reducible refine gate_callee (f := 21) rfl ?_); refine goesL_ (some 8) rfl rfl Tryz.func21 zq5 rfl #[.slice A0_0 l0_0.length c0_0, .int .i64 a1] rfl zq6 ?_; (with_reducible refine (laws_szByteSS.calls k _ _ l0_0 a1 t125 _ ?side1 ?side2 A3.out).mono ?_); (case side1 => repeat (first | exact (Kd.C_below HR0_0.out HB.out) | (with_reducible refine Kd.C_alloc ?_ _) | (with_reducible refine Kd.C_drewN ?_ _) | (with_reducible refine Kd.C_drew ?_))); (case side2 => exact HC0_0.out); rintro e w' ⟨rfl, ⟨nd, rfl⟩⟩; refine ⟨_, rfl, ?_⟩) | ((with_reducible refine gate_callee (f := 21) rfl ?_); refine goesL_ (some 14) rfl rfl Tryz.func21 zq5 rfl #[.slice A0_1 l0_1.length c0_1, .int .i64 t125] rfl zq6 ?_; (with_reducible refine (laws_szByteSS.calls k _ _ l0_1 t125 t126 _ ?side1 ?side2 A7.out).mono ?_); (case side1 => repeat (first | exact (Kd.C_below HR0_1.out (by repeat (first | (with_reducible first | exact HB.out | apply below_alloc | apply pw_below_drewN | apply below_drew1 | refine below_set ?_ GE124.out) | exact HB.out))) | (with_reducible refine Kd.C_alloc ?_ _) | (with_reducible refine Kd.C_drewN ?_ _) | (with_reducible refine Kd.C_drew ?_))); (case side2 => exact HC0_1.out); rintro e w' ⟨rfl, ⟨nd, rfl⟩⟩; refine ⟨_, rfl, ?_⟩))
   go_ret
   exact ⟨zq9, by repeat (first | (with_reducible first | exact HB.out | apply below_alloc | apply pw_below_drewN | apply below_drew1 | refine below_set ?_ GE124.out) | exact HB.out)⟩
  ·rw [if_neg c8] at H
   have c8b0 : decide (t126 < 0) = false := decide_eq_false c8
   clear c8
   obtain rfl := Option.some.inj H
   go_enter Tryz.func6, Tryz.ntmps6
   go_wp2_with (first | ((with_reducible refine gate_dst (N := 2) rfl ?_); refine box_event ?hg (N := 2) ?hd (cs := #[.slice A0_0 l0_0.length c0_0, .slice A0_1 l0_1.length c0_1]) (t := 24) ?hr ?_; (case hd => rfl); (case hg => rfl); (case hr => first | (go_simp; done) | (go_simp; rfl)); intro gb124 hg w11 hbox hb; have n0_ := zA (below_step zq0 hb); have n1_ := zA (hbox); have n2_ := zA ((by rw [hg]; exact (below_size zq0) : w.heap.size ≤ gb124)); have n3_ := zA ((by rw [hg]; exact (below_size zq0) : w.heap.size ≤ gb124)); clear HB; have HB := n0_; have BK124 := n1_; have GW124 := n2_; have GE124 := n3_; clear n0_ n1_ n2_ n3_; clear hb hbox hg; have hcz12_0 : w11.cell? ⟨gb124, 0, none⟩ = some (.slice A0_0 l0_0.length c0_0) := (blk_cell BK124.out 0).trans rfl; have hcz12_1 : w11.cell? ⟨gb124, 1, none⟩ = some (.slice A0_1 l0_1.length c0_1) := (blk_cell BK124.out 1).trans rfl; have hfz12_0 := blk_frozen BK124.out 0; have hfz12_1 := blk_frozen BK124.out 1) | ((with_reducible refine gate_callee (f := 21) rfl ?_); refine goesL_ (some 8) rfl rfl Tryz.func21 zq5 rfl #[.slice A0_0 l0_0.length c0_0, .int .i64 a1] rfl zq6 ?_; (with_reducible refine (laws_szByteSS.calls k _ _ l0_0 a1 t125 _ ?side1 ?side2 A3.out).mono ?_); (case side1 => repeat (first | exact (Kd.C_below HR0_0.out HB.out) | (with_reducible refine Kd.C_alloc ?_ _) | (with_reducible refine Kd.C_drewN ?_ _) | (with_reducible refine Kd.C_drew ?_))); (case side2 => exact HC0_0.out); rintro e w' ⟨rfl, ⟨nd, rfl⟩⟩; refine ⟨_, rfl, ?_⟩) | ((with_reducible refine gate_callee (f := 21) rfl ?_); refine goesL_ (some 14) rfl rfl Tryz.func21 zq5 rfl #[.slice A0_1 l0_1.length c0_1, .int .i64 t125] rfl zq6 ?_; (with_reducible refine (laws_szByteSS.calls k _ _ l0_1 t125 t126 _ ?side1 ?side2 A7.out).mono ?_); (case side1 => repeat (first | exact (Kd.C_below HR0_1.out (by repeat (first | (with_reducible first | exact HB.out | apply below_alloc | apply pw_below_drewN | apply below_drew1 | refine below_set ?_ GE124.out) | exact HB.out))) | (with_reducible refine Kd.C_alloc ?_ _) | (with_reducible refine Kd.C_drewN ?_ _) | (with_reducible refine Kd.C_drew ?_))); (case side2 => exact HC0_1.out); rintro e w' ⟨rfl, ⟨nd, rfl⟩⟩; refine ⟨_, rfl, ?_⟩))
   go_ret
   exact ⟨zq9, by repeat (first | (with_reducible first | exact HB.out | apply below_alloc | apply pw_below_drewN | apply below_drew1 | refine below_set ?_ GE124.out) | exact HB.out)⟩
end Go.Proofs.YtmgmdnmfalepkaaGreat.L

namespace Go.Proofs.YtmgmdnmfalepkaaGreat.HelpSta
open Go.RowKit Go.Proofs.YtmgmdnmfalepkaaGreatW.PrintWords Go.Proofs.YtmgmdnmfalepkaaGreatW.PrintMore Go.Proofs.YtmgmdnmfalepkaaGreat.Kit Go.Proofs.YtmgmdnmfalepkaaGreat.PKit Go.Proofs.YtmgmdnmfalepkaaGreat.L Go.Proofs.YtmgmdnmfalepkaaGreat.Ty
set_option linter.unusedVariables false
abbrev X := List (List Int) × List (List Int)
def tys : Tys X := (Tys.cons HelpBB.tBB (Tys.one HelpBB.tBB))
abbrev tSta : Ty X := Ty.agg tys
abbrev cntSta (x : X) : Nat := HelpBB.cntBB x.1 + HelpBB.cntBB x.2
abbrev bdSta (x : X) : Prop := HelpBB.bdBB x.1 ∧ HelpBB.bdBB x.2
abbrev smallSta (x : X) : Prop := (x.1.length + HelpBB.totalB x.1) + (x.2.length + HelpBB.totalB x.2) ≤ 1048576
theorem small_parts {x : X} (h : smallSta x) : HelpBB.smallBB x.1 ∧ HelpBB.smallBB x.2 := by
 have h' : (x.1.length + HelpBB.totalB x.1) + (x.2.length + HelpBB.totalB x.2) ≤ 1048576 := h
 exact ⟨by show (x.1.length + HelpBB.totalB x.1) ≤ _; omega, by show (x.2.length + HelpBB.totalB x.2) ≤ _; omega⟩
theorem bd_small {x : X} (h : smallSta x) : bdSta x := by
 obtain ⟨s0, s1⟩ := small_parts h
 exact ⟨HelpBB.bd_small s0, HelpBB.bd_small s1⟩
theorem cnt_small {x : X} (h : smallSta x) : cntSta x ≤ 1048576 := by
 have h' : (x.1.length + HelpBB.totalB x.1) + (x.2.length + HelpBB.totalB x.2) ≤ 1048576 := h
 show HelpBB.totalB x.1 + HelpBB.totalB x.2 ≤ _
 omega
def markSta (a : Int) (x : X) : X := (HelpBB.markBB (a) x.1, HelpBB.markBB (a + (HelpBB.cntBB x.1 : Int)) x.2)
set_option maxRecDepth 100000 in
set_option maxHeartbeats 4000000 in
theorem to_calls (x : X) (v : Value) (w : World) (h : tSta.K w x v) (hb : bdSta x) :
  Calls Tryz.prog 8 #[v] w fun e w' => ∃ v', e = .returned v' ∧ tSta.M w' w.heap.size (fun _ => True) x v' ∧ Grew w w' := by
 have huL := Tryz.underlying24
 have huI := Tryz.underlying27
 obtain ⟨y0, y1⟩ := x
 obtain ⟨b0, b1⟩ := hb
 have B0 := zA b0
 clear b0
 have B1 := zA b1
 clear b1
 obtain ⟨l, rfl, hl⟩ := h
 obtain ⟨u0, r0, rfl, h0, hl0⟩ := hl
 obtain ⟨u1, rfl, h1⟩ := hl0
 obtain ⟨A0, c0, rfl, hc0, hr0⟩ := h0
 obtain ⟨A1, c1, rfl, hc1, hr1⟩ := h1
 have K0 := zA (show HelpBB.tBB.K w y0 (.slice A0 y0.length c0) from ⟨A0, c0, rfl, hc0, hr0⟩)
 clear hc0 hr0
 have K1 := zA (show HelpBB.tBB.K w y1 (.slice A1 y1.length c1) from ⟨A1, c1, rfl, hc1, hr1⟩)
 clear hc1 hr1
 show Calls _ _ #[.agg #[.slice A0 y0.length c0, .slice A1 y1.length c1]] w _
 have HB := zA (Below.refl w.heap.size w)
 go_enter Tryz.func8, Tryz.ntmps8
 go_wp2_with (first | ((with_reducible refine gate_dst (N := 1) rfl ?_); refine box_event ?hg (N := 1) ?hd (cs := #[.slice A0 y0.length c0, .slice A1 y1.length c1]) (t := 24) ?hr ?_; (case hd => rfl); (case hg => rfl); (case hr => first | (go_simp; done) | (go_simp; rfl)); intro g1 hg w1 hbox hb; have GS1 := zA (show w.heap.size = g1 from hg.symm); have nb_ := zA (below_step HB.out hb); have BK1 := zA hbox; have GE1 := zA ((by rw [hg]; exact HB.out.size) : w.heap.size ≤ g1); clear HB; have HB := nb_; clear nb_ hb hbox hg) | ((with_reducible refine gate_dst (N := 2) rfl ?_); refine box_event ?hg (N := 2) ?hd (cs := #[.slice none 0 0, .slice none 0 0]) (t := 27) ?hr ?_; (case hd => rfl); (case hg => rfl); (case hr => first | (go_simp; done) | (go_simp; rfl)); intro g2 hg w2 hbox hb; have GS2 := zA (show w1.heap.size = g2 from hg.symm); have n1_ := zA (blk_below (g := g1) (o := .cells #[.slice A0 y0.length c0, .slice A1 y1.length c1] 24 (0, 0)) BK1.out hb); have nb_ := zA (below_step HB.out hb); have BK2 := zA hbox; have GE2 := zA ((by rw [hg]; exact HB.out.size) : w.heap.size ≤ g2); have NE1_2 := zA ((by rw [hg]; exact Nat.ne_of_lt (blk_lt BK1.out)) : g1 ≠ g2); have NE2_1 := zA (Ne.symm NE1_2.out); clear BK1; have BK1 := n1_; clear n1_; clear HB; have HB := nb_; clear nb_ hb hbox hg) | ((with_reducible refine gate_dst (N := 3) rfl ?_); refine box_event ?hg (N := 3) ?hd (cs := #[.slice none 0 0, .slice none 0 0]) (t := 27) ?hr ?_; (case hd => rfl); (case hg => rfl); (case hr => first | (go_simp; done) | (go_simp; rfl)); intro g3 hg w3 hbox hb; have GS3 := zA (show w2.heap.size = g3 from hg.symm); have n1_ := zA (blk_below (g := g1) (o := .cells #[.slice A0 y0.length c0, .slice A1 y1.length c1] 24 (0, 0)) BK1.out hb); have n2_ := zA (blk_below (g := g2) (o := .cells #[.slice none 0 0, .slice none 0 0] 27 (0, 0)) BK2.out hb); have nb_ := zA (below_step HB.out hb); have BK3 := zA hbox; have GE3 := zA ((by rw [hg]; exact HB.out.size) : w.heap.size ≤ g3); have NE1_3 := zA ((by rw [hg]; exact Nat.ne_of_lt (blk_lt BK1.out)) : g1 ≠ g3); have NE3_1 := zA (Ne.symm NE1_3.out); clear BK1; have BK1 := n1_; clear n1_; have NE2_3 := zA ((by rw [hg]; exact Nat.ne_of_lt (blk_lt BK2.out)) : g2 ≠ g3); have NE3_2 := zA (Ne.symm NE2_3.out); clear BK2; have BK2 := n2_; clear n2_; clear HB; have HB := nb_; clear nb_ hb hbox hg; have hn31 := NE3_1.out; have hn13 := NE1_3.out; have hn21 := NE2_1.out; have hn12 := NE1_2.out; have hn32 := NE3_2.out; have hn23 := NE2_3.out; have hczw3_1_0 : w3.cell? ⟨g1, 0, none⟩ = some (.slice A0 y0.length c0) := (blk_cell BK1.out 0).trans rfl; have hfzw3_1_0 := blk_frozen (w := w3) BK1.out 0; have hczw3_1_1 : w3.cell? ⟨g1, 1, none⟩ = some (.slice A1 y1.length c1) := (blk_cell BK1.out 1).trans rfl; have hfzw3_1_1 := blk_frozen (w := w3) BK1.out 1; have hczw3_3_0 : w3.cell? ⟨g3, 0, none⟩ = some (.slice none 0 0) := (blk_cell BK3.out 0).trans rfl; have hfzw3_3_0 := blk_frozen (w := w3) BK3.out 0; have hczw3_3_1 : w3.cell? ⟨g3, 1, none⟩ = some (.slice none 0 0) := (blk_cell BK3.out 1).trans rfl; have hfzw3_3_1 := blk_frozen (w := w3) BK3.out 1; have hczw3_2_0 : w3.cell? ⟨g2, 0, none⟩ = some (.slice none 0 0) := (blk_cell BK2.out 0).trans rfl; have hfzw3_2_0 := blk_frozen (w := w3) BK2.out 0; have hczw3_2_1 : w3.cell? ⟨g2, 1, none⟩ = some (.slice none 0 0) := (blk_cell BK2.out 1).trans rfl; have hfzw3_2_1 := blk_frozen (w := w3) BK2.out 1) | (go_at_call 26; (with_reducible refine gate_args (as_ := #[.slice A0 y0.length c0]) rfl ?_); refine (HelpBB.to_calls y0 (.slice A0 y0.length c0) _ ?sa B0.out).mono ?_; (case sa => exact HelpBB.tBB.K_below (by repeat (first | (with_reducible first | exact HB.out | apply below_alloc | apply pw_below_drewN | apply below_drew1 | refine below_set ?_ GE1.out | refine below_set ?_ GE2.out | refine below_set ?_ GE3.out) | exact HB.out)) K0.out); rintro e w4 ⟨v0, rfl, hm, hg⟩; have hq : w3.heap.size ≤ w4.heap.size := (by have h1 := hg.size; simpa [World.setCell] using h1); have n1_ := zA (blk_below (g := g1) (o := .cells #[.slice A0 y0.length c0, .slice A1 y1.length c1] 24 (0, 0)) (by (with_reducible repeat (first | refine blk_drewN ?_ _ | refine blk_drew ?_ | refine blk_alloc ?_ _)); exact BK1.out) hg); have n2_ := zA (blk_below (g := g2) (o := .cells #[.slice none 0 0, .slice none 0 0] 27 (0, 0)) (by (with_reducible repeat (first | refine blk_drewN ?_ _ | refine blk_drew ?_ | refine blk_alloc ?_ _)); exact BK2.out) hg); have n3_ := zA (blk_below (g := g3) (o := .cells #[.slice none 0 0, .slice none 0 0] 27 (0, 0)) (by (with_reducible repeat (first | refine blk_drewN ?_ _ | refine blk_drew ?_ | refine blk_alloc ?_ _)); exact BK3.out) hg); have M0 := zA (show HelpBB.tBB.M w4 w.heap.size (fun k => w3.heap.size ≤ k ∧ k < w4.heap.size) y0 v0 from HelpBB.tBB.M_mono (fun k hk => ⟨by have h1 := hk.1; simpa [World.setCell] using h1, hk.2⟩) (HelpBB.tBB.M_lower (below_size (by repeat (first | (with_reducible first | exact HB.out | apply below_alloc | apply pw_below_drewN | apply below_drew1 | refine below_set ?_ GE1.out | refine below_set ?_ GE2.out | refine below_set ?_ GE3.out) | exact HB.out))) (Ty.M_beyond hm))); have L3_0 := zA (show g3 < w3.heap.size from blk_lt BK3.out); have L2_0 := zA (show g2 < w3.heap.size from blk_lt BK2.out); have Q0 := zA hq; have nb_ := zA (below_step (by repeat (first | (with_reducible first | exact HB.out | apply below_alloc | apply pw_below_drewN | apply below_drew1 | refine below_set ?_ GE1.out | refine below_set ?_ GE2.out | refine below_set ?_ GE3.out) | exact HB.out)) hg); clear BK1 BK2 BK3 HB; have BK1 := n1_; have BK2 := n2_; have BK3 := n3_; have HB := nb_; clear n1_ n2_ n3_ nb_ hg hm hq; obtain ⟨A0t, c0t, e0, _, _⟩ := HelpBB.tBB.K_of_M M0.out; subst e0; have hczw4_1_0 : w4.cell? ⟨g1, 0, none⟩ = some (.slice A0 y0.length c0) := (blk_cell BK1.out 0).trans rfl; have hfzw4_1_0 := blk_frozen (w := w4) BK1.out 0; have hczw4_1_1 : w4.cell? ⟨g1, 1, none⟩ = some (.slice A1 y1.length c1) := (blk_cell BK1.out 1).trans rfl; have hfzw4_1_1 := blk_frozen (w := w4) BK1.out 1; have hczw4_3_0 : w4.cell? ⟨g3, 0, none⟩ = some (.slice none 0 0) := (blk_cell BK3.out 0).trans rfl; have hfzw4_3_0 := blk_frozen (w := w4) BK3.out 0; have hczw4_3_1 : w4.cell? ⟨g3, 1, none⟩ = some (.slice none 0 0) := (blk_cell BK3.out 1).trans rfl; have hfzw4_3_1 := blk_frozen (w := w4) BK3.out 1; have hczw4_2_0 : w4.cell? ⟨g2, 0, none⟩ = some (.slice none 0 0) := (blk_cell BK2.out 0).trans rfl; have hfzw4_2_0 := blk_frozen (w := w4) BK2.out 0; have hczw4_2_1 : w4.cell? ⟨g2, 1, none⟩ = some (.slice none 0 0) := (blk_cell BK2.out 1).trans rfl; have hfzw4_2_1 := blk_frozen (w := w4) BK2.out 1) | (go_at_call 26; (with_reducible refine gate_args (as_ := #[.slice A1 y1.length c1]) rfl ?_); refine (HelpBB.to_calls y1 (.slice A1 y1.length c1) _ ?sa B1.out).mono ?_; (case sa => exact HelpBB.tBB.K_below (by repeat (first | (with_reducible first | exact HB.out | apply below_alloc | apply pw_below_drewN | apply below_drew1 | refine below_set ?_ GE1.out | refine below_set ?_ GE2.out | refine below_set ?_ GE3.out) | exact HB.out)) K1.out); rintro e w5 ⟨v1, rfl, hm, hg⟩; have hq : w4.heap.size ≤ w5.heap.size := (by have h1 := hg.size; simpa [World.setCell] using h1); have n1_ := zA (blk_below (g := g1) (o := .cells #[.slice A0 y0.length c0, .slice A1 y1.length c1] 24 (0, 0)) (by (with_reducible repeat (first | refine blk_drewN ?_ _ | refine blk_drew ?_ | refine blk_alloc ?_ _)); refine blk_far ?_ NE1_3.out _; (with_reducible repeat (first | refine blk_drewN ?_ _ | refine blk_drew ?_ | refine blk_alloc ?_ _)); exact BK1.out) hg); have n2_ := zA (blk_below (g := g2) (o := .cells #[.slice none 0 0, .slice none 0 0] 27 (0, 0)) (by (with_reducible repeat (first | refine blk_drewN ?_ _ | refine blk_drew ?_ | refine blk_alloc ?_ _)); refine blk_far ?_ NE2_3.out _; (with_reducible repeat (first | refine blk_drewN ?_ _ | refine blk_drew ?_ | refine blk_alloc ?_ _)); exact BK2.out) hg); have n3_ := zA (blk_below (g := g3) (o := .cells #[.slice A0t y0.length c0t, .slice none 0 0] 27 (0, 0)) (by (with_reducible repeat (first | refine blk_drewN ?_ _ | refine blk_drew ?_ | refine blk_alloc ?_ _)); refine blk_put (cs := #[.slice none 0 0, .slice none 0 0]) ?_ 0 _ rfl; (with_reducible repeat (first | refine blk_drewN ?_ _ | refine blk_drew ?_ | refine blk_alloc ?_ _)); exact BK3.out) hg); have m0_ := zA (Ty.M_below (Ty.M_set M0.out (fun k hk e => by have h1 := hk.1; have h2 := L3_0.out; omega) _) hg); have M1 := zA (show HelpBB.tBB.M w5 w.heap.size (fun k => w4.heap.size ≤ k ∧ k < w5.heap.size) y1 v1 from HelpBB.tBB.M_mono (fun k hk => ⟨by have h1 := hk.1; simpa [World.setCell] using h1, hk.2⟩) (HelpBB.tBB.M_lower (below_size (by repeat (first | (with_reducible first | exact HB.out | apply below_alloc | apply pw_below_drewN | apply below_drew1 | refine below_set ?_ GE1.out | refine below_set ?_ GE2.out | refine below_set ?_ GE3.out) | exact HB.out))) (Ty.M_beyond hm))); have L3_1 := zA (show g3 < w4.heap.size from blk_lt BK3.out); have L2_1 := zA (show g2 < w4.heap.size from blk_lt BK2.out); have Q1 := zA hq; have nb_ := zA (below_step (by repeat (first | (with_reducible first | exact HB.out | apply below_alloc | apply pw_below_drewN | apply below_drew1 | refine below_set ?_ GE1.out | refine below_set ?_ GE2.out | refine below_set ?_ GE3.out) | exact HB.out)) hg); clear BK1 BK2 BK3 HB; have BK1 := n1_; have BK2 := n2_; have BK3 := n3_; have HB := nb_; clear n1_ n2_ n3_ nb_ hg hm hq; clear M0; have M0 := m0_; clear m0_; obtain ⟨A1t, c1t, e1, _, _⟩ := HelpBB.tBB.K_of_M M1.out; subst e1; have hczw5_1_0 : w5.cell? ⟨g1, 0, none⟩ = some (.slice A0 y0.length c0) := (blk_cell BK1.out 0).trans rfl; have hfzw5_1_0 := blk_frozen (w := w5) BK1.out 0; have hczw5_1_1 : w5.cell? ⟨g1, 1, none⟩ = some (.slice A1 y1.length c1) := (blk_cell BK1.out 1).trans rfl; have hfzw5_1_1 := blk_frozen (w := w5) BK1.out 1; have hczw5_3_0 : w5.cell? ⟨g3, 0, none⟩ = some (.slice A0t y0.length c0t) := (blk_cell BK3.out 0).trans rfl; have hfzw5_3_0 := blk_frozen (w := w5) BK3.out 0; have hczw5_3_1 : w5.cell? ⟨g3, 1, none⟩ = some (.slice none 0 0) := (blk_cell BK3.out 1).trans rfl; have hfzw5_3_1 := blk_frozen (w := w5) BK3.out 1; have hczw5_2_0 : w5.cell? ⟨g2, 0, none⟩ = some (.slice none 0 0) := (blk_cell BK2.out 0).trans rfl; have hfzw5_2_0 := blk_frozen (w := w5) BK2.out 0; have hczw5_2_1 : w5.cell? ⟨g2, 1, none⟩ = some (.slice none 0 0) := (blk_cell BK2.out 1).trans rfl; have hfzw5_2_1 := blk_frozen (w := w5) BK2.out 1))
 refine bodyPost_ret (results_cell_row rfl _ _ g2 27 #[.slice A0t y0.length c0t, .slice A1t y1.length c1t] (0, 0) _ rfl (by (with_reducible repeat (first | refine blk_drewN ?_ _ | refine blk_drew ?_ | refine blk_alloc ?_ _)); refine blk_put (cs := #[.slice A0t y0.length c0t, .slice none 0 0]) ?_ 1 _ rfl; (with_reducible repeat (first | refine blk_drewN ?_ _ | refine blk_drew ?_ | refine blk_alloc ?_ _)); refine blk_put (cs := #[.slice none 0 0, .slice none 0 0]) ?_ 0 _ rfl; (with_reducible repeat (first | refine blk_drewN ?_ _ | refine blk_drew ?_ | refine blk_alloc ?_ _)); refine blk_far ?_ NE2_3.out _; (with_reducible repeat (first | refine blk_drewN ?_ _ | refine blk_drew ?_ | refine blk_alloc ?_ _)); exact BK2.out) Tryz.underlying27 rfl zq5) rfl ?_
 refine ⟨_, rfl, ⟨[.slice A0t y0.length c0t, .slice A1t y1.length c1t], rfl, tys.M_mono (fun _ _ => trivial) (Tys.cons_apart (Ty.M_set (Ty.M_set (Ty.M_set M0.out (fun k hk e => by have h1 := hk.1; have h2 := L3_0.out; omega) _) (fun k hk e => by have h1 := hk.1; have h2 := L2_0.out; omega) _) (fun k hk e => by have h1 := hk.1; have h2 := L2_0.out; omega) _) (Tys.M_one (Ty.M_set (Ty.M_set (Ty.M_set M1.out (fun k hk e => by have h1 := hk.1; have h2 := L3_1.out; omega) _) (fun k hk e => by have h1 := hk.1; have h2 := L2_1.out; omega) _) (fun k hk e => by have h1 := hk.1; have h2 := L2_1.out; omega) _)) (fun k hk hk1 => by have q0 := Q0.out; have q1 := Q1.out; (rcases hk with hk); (all_goals (first | exact hk.elim | (have h1 := hk.1; have h2 := hk.2; have h3 := hk1.1; have h4 := hk1.2; omega)))))⟩, by repeat (first | (with_reducible first | exact HB.out | apply below_alloc | apply pw_below_drewN | apply below_drew1 | refine below_set ?_ GE1.out | refine below_set ?_ GE2.out | refine below_set ?_ GE3.out) | exact HB.out)⟩
set_option maxRecDepth 100000 in
set_option maxHeartbeats 4000000 in
theorem eq_calls (x : X) (v v' : Value) (w : World) (h : tSta.K w x v) (h' : tSta.K w x v') (hb : bdSta x) :
  Calls Tryz.prog 11 #[v, v'] w fun e w' => e = .returned (.bool true) ∧ Grew w w' := by
 have huI := Tryz.underlying27
 obtain ⟨y0, y1⟩ := x
 obtain ⟨b0, b1⟩ := hb
 have B0 := zA b0
 clear b0
 have B1 := zA b1
 clear b1
 obtain ⟨l, rfl, hl⟩ := h
 obtain ⟨u0, r0, rfl, h0, hl0⟩ := hl
 obtain ⟨u1, rfl, h1⟩ := hl0
 obtain ⟨A0, c0, rfl, hc0, hr0⟩ := h0
 obtain ⟨A1, c1, rfl, hc1, hr1⟩ := h1
 obtain ⟨lq, rfl, hlq⟩ := h'
 obtain ⟨u0q, r0q, rfl, h0q, hl0q⟩ := hlq
 obtain ⟨u1q, rfl, h1q⟩ := hl0q
 obtain ⟨A0q, c0q, rfl, hc0q, hr0q⟩ := h0q
 obtain ⟨A1q, c1q, rfl, hc1q, hr1q⟩ := h1q
 have K0 := zA (show HelpBB.tBB.K w y0 (.slice A0 y0.length c0) from ⟨A0, c0, rfl, hc0, hr0⟩)
 clear hc0 hr0
 have K1 := zA (show HelpBB.tBB.K w y1 (.slice A1 y1.length c1) from ⟨A1, c1, rfl, hc1, hr1⟩)
 clear hc1 hr1
 have K0q := zA (show HelpBB.tBB.K w y0 (.slice A0q y0.length c0q) from ⟨A0q, c0q, rfl, hc0q, hr0q⟩)
 clear hc0q hr0q
 have K1q := zA (show HelpBB.tBB.K w y1 (.slice A1q y1.length c1q) from ⟨A1q, c1q, rfl, hc1q, hr1q⟩)
 clear hc1q hr1q
 show Calls _ _ #[.agg #[.slice A0 y0.length c0, .slice A1 y1.length c1], .agg #[.slice A0q y0.length c0q, .slice A1q y1.length c1q]] w _
 have HB := zA (Below.refl w.heap.size w)
 go_enter Tryz.func11, Tryz.ntmps11
 go_wp2_with (first | ((with_reducible refine gate_dst (N := 2) rfl ?_); refine box_event ?hg (N := 2) ?hd (cs := #[.slice A0 y0.length c0, .slice A1 y1.length c1]) (t := 27) ?hr ?_; (case hd => rfl); (case hg => rfl); (case hr => first | (go_simp; done) | (go_simp; rfl)); intro g1 hg w1 hbox hb; have GS1 := zA (show w.heap.size = g1 from hg.symm); have nb_ := zA (below_step HB.out hb); have BK1 := zA hbox; have GE1 := zA ((by rw [hg]; exact HB.out.size) : w.heap.size ≤ g1); clear HB; have HB := nb_; clear nb_ hb hbox hg) | ((with_reducible refine gate_dst (N := 3) rfl ?_); refine box_event ?hg (N := 3) ?hd (cs := #[.slice A0q y0.length c0q, .slice A1q y1.length c1q]) (t := 27) ?hr ?_; (case hd => rfl); (case hg => rfl); (case hr => first | (go_simp; done) | (go_simp; rfl)); intro g2 hg w2 hbox hb; have GS2 := zA (show w1.heap.size = g2 from hg.symm); have n1_ := zA (blk_below (g := g1) (o := .cells #[.slice A0 y0.length c0, .slice A1 y1.length c1] 27 (0, 0)) BK1.out hb); have nb_ := zA (below_step HB.out hb); have BK2 := zA hbox; have GE2 := zA ((by rw [hg]; exact HB.out.size) : w.heap.size ≤ g2); have NE1_2 := zA ((by rw [hg]; exact Nat.ne_of_lt (blk_lt BK1.out)) : g1 ≠ g2); have NE2_1 := zA (Ne.symm NE1_2.out); clear BK1; have BK1 := n1_; clear n1_; clear HB; have HB := nb_; clear nb_ hb hbox hg; have hczw2_1_0 : w2.cell? ⟨g1, 0, none⟩ = some (.slice A0 y0.length c0) := (blk_cell BK1.out 0).trans rfl; have hfzw2_1_0 := blk_frozen (w := w2) BK1.out 0; have hczw2_1_1 : w2.cell? ⟨g1, 1, none⟩ = some (.slice A1 y1.length c1) := (blk_cell BK1.out 1).trans rfl; have hfzw2_1_1 := blk_frozen (w := w2) BK1.out 1; have hczw2_2_0 : w2.cell? ⟨g2, 0, none⟩ = some (.slice A0q y0.length c0q) := (blk_cell BK2.out 0).trans rfl; have hfzw2_2_0 := blk_frozen (w := w2) BK2.out 0; have hczw2_2_1 : w2.cell? ⟨g2, 1, none⟩ = some (.slice A1q y1.length c1q) := (blk_cell BK2.out 1).trans rfl; have hfzw2_2_1 := blk_frozen (w := w2) BK2.out 1) | (go_at_call 30; (with_reducible refine gate_args (as_ := #[.slice A0 y0.length c0, .slice A0q y0.length c0q]) rfl ?_); refine (HelpBB.eq_calls y0 (.slice A0 y0.length c0) (.slice A0q y0.length c0q) _ ?sa ?sb B0.out).mono ?_; (case sa => exact HelpBB.tBB.K_below zq0 K0.out); (case sb => exact HelpBB.tBB.K_below zq0 K0q.out); rintro e w3 ⟨rfl, hg⟩; have n1_ := zA (blk_below (g := g1) (o := .cells #[.slice A0 y0.length c0, .slice A1 y1.length c1] 27 (0, 0)) (by (with_reducible repeat (first | refine blk_drewN ?_ _ | refine blk_drew ?_ | refine blk_alloc ?_ _)); exact BK1.out) hg); have n2_ := zA (blk_below (g := g2) (o := .cells #[.slice A0q y0.length c0q, .slice A1q y1.length c1q] 27 (0, 0)) (by (with_reducible repeat (first | refine blk_drewN ?_ _ | refine blk_drew ?_ | refine blk_alloc ?_ _)); exact BK2.out) hg); have nb_ := zA (below_step zq0 hg); clear BK1 BK2 HB; have BK1 := n1_; have BK2 := n2_; have HB := nb_; clear n1_ n2_ nb_ hg; have hczw3_1_0 : w3.cell? ⟨g1, 0, none⟩ = some (.slice A0 y0.length c0) := (blk_cell BK1.out 0).trans rfl; have hfzw3_1_0 := blk_frozen (w := w3) BK1.out 0; have hczw3_1_1 : w3.cell? ⟨g1, 1, none⟩ = some (.slice A1 y1.length c1) := (blk_cell BK1.out 1).trans rfl; have hfzw3_1_1 := blk_frozen (w := w3) BK1.out 1; have hczw3_2_0 : w3.cell? ⟨g2, 0, none⟩ = some (.slice A0q y0.length c0q) := (blk_cell BK2.out 0).trans rfl; have hfzw3_2_0 := blk_frozen (w := w3) BK2.out 0; have hczw3_2_1 : w3.cell? ⟨g2, 1, none⟩ = some (.slice A1q y1.length c1q) := (blk_cell BK2.out 1).trans rfl; have hfzw3_2_1 := blk_frozen (w := w3) BK2.out 1) | (go_at_call 30; (with_reducible refine gate_args (as_ := #[.slice A1 y1.length c1, .slice A1q y1.length c1q]) rfl ?_); refine (HelpBB.eq_calls y1 (.slice A1 y1.length c1) (.slice A1q y1.length c1q) _ ?sa ?sb B1.out).mono ?_; (case sa => exact HelpBB.tBB.K_below zq0 K1.out); (case sb => exact HelpBB.tBB.K_below zq0 K1q.out); rintro e w4 ⟨rfl, hg⟩; have n1_ := zA (blk_below (g := g1) (o := .cells #[.slice A0 y0.length c0, .slice A1 y1.length c1] 27 (0, 0)) (by (with_reducible repeat (first | refine blk_drewN ?_ _ | refine blk_drew ?_ | refine blk_alloc ?_ _)); exact BK1.out) hg); have n2_ := zA (blk_below (g := g2) (o := .cells #[.slice A0q y0.length c0q, .slice A1q y1.length c1q] 27 (0, 0)) (by (with_reducible repeat (first | refine blk_drewN ?_ _ | refine blk_drew ?_ | refine blk_alloc ?_ _)); exact BK2.out) hg); have nb_ := zA (below_step zq0 hg); clear BK1 BK2 HB; have BK1 := n1_; have BK2 := n2_; have HB := nb_; clear n1_ n2_ nb_ hg; have hczw4_1_0 : w4.cell? ⟨g1, 0, none⟩ = some (.slice A0 y0.length c0) := (blk_cell BK1.out 0).trans rfl; have hfzw4_1_0 := blk_frozen (w := w4) BK1.out 0; have hczw4_1_1 : w4.cell? ⟨g1, 1, none⟩ = some (.slice A1 y1.length c1) := (blk_cell BK1.out 1).trans rfl; have hfzw4_1_1 := blk_frozen (w := w4) BK1.out 1; have hczw4_2_0 : w4.cell? ⟨g2, 0, none⟩ = some (.slice A0q y0.length c0q) := (blk_cell BK2.out 0).trans rfl; have hfzw4_2_0 := blk_frozen (w := w4) BK2.out 0; have hczw4_2_1 : w4.cell? ⟨g2, 1, none⟩ = some (.slice A1q y1.length c1q) := (blk_cell BK2.out 1).trans rfl; have hfzw4_2_1 := blk_frozen (w := w4) BK2.out 1))
 go_ret
 exact ⟨rfl, zq0⟩
set_option maxRecDepth 100000 in
set_option maxHeartbeats 4000000 in
theorem mark_calls (x : X) (v : Value) (ok : Nat → Prop) (a : Int) (w0 w : World) (hB : Below w0.heap.size w0 w) (h : tSta.M w w0.heap.size ok x v) (a0 : 0 ≤ a) (a1 : a + cntSta x ≤ 1099511627776) (hb : bdSta x) :
  Calls Tryz.prog 13 #[v, .int .i64 a] w fun e w' => e = .returned (.int .i64 (a + cntSta x)) ∧ tSta.M w' w0.heap.size ok (markSta a x) v ∧ Below w0.heap.size w0 w' ∧ Kept w w' ok := by
 have huI := Tryz.underlying27
 obtain ⟨y0, y1⟩ := x
 obtain ⟨b0, b1⟩ := hb
 have B0 := zA b0
 clear b0
 have B1 := zA b1
 clear b1
 have a1' : a + ((HelpBB.cntBB y0 : Int) + (HelpBB.cntBB y1 : Int)) ≤ 1099511627776 := by have h1 : a + ((HelpBB.cntBB y0 + HelpBB.cntBB y1 : Nat) : Int) ≤ 1099511627776 := a1; omega
 clear a1
 obtain ⟨l, rfl, hl⟩ := h
 obtain ⟨u0, r0, p0, q0, rfl, hi0, ha0, h0, hl0⟩ := hl
 obtain ⟨u1, rfl, h1⟩ := hl0
 obtain ⟨A0, c0, rfl, _, _⟩ := HelpBB.tBB.K_of_M h0
 have M0 := zA (HelpBB.tBB.M_bound h0)
 clear h0
 obtain ⟨A1, c1, rfl, _, _⟩ := HelpBB.tBB.K_of_M h1
 have M1 := zA (HelpBB.tBB.M_bound h1)
 clear h1
 show Calls _ _ #[.agg #[.slice A0 y0.length c0, .slice A1 y1.length c1], .int .i64 a] w _
 have HB := zA hB
 clear hB
 have HK := zA (Kept.refl w ok)
 have in0 : ∀ k, p0 k → ok k := fun k h => hi0 k h
 have in1 : ∀ k, q0 k → ok k := fun k h => (ha0 k h).1
 have ap0_1 : ∀ k, p0 k → q0 k → False := fun k g h => (ha0 k (h)).2 g
 go_enter Tryz.func13, Tryz.ntmps13
 go_wp2_with (first | ((with_reducible refine gate_dst (N := 2) rfl ?_); refine box_event ?hg (N := 2) ?hd (cs := #[.slice A0 y0.length c0, .slice A1 y1.length c1]) (t := 27) ?hr ?_; (case hd => rfl); (case hg => rfl); (case hr => first | (go_simp; done) | (go_simp; rfl)); intro g1 hg w1 hbox hb; have GS1 := zA (show w.heap.size = g1 from hg.symm); have BK1 := zA hbox; have nb_ := zA (below_step HB.out hb); have nk_ := zA (Kept.of_below (S := ok) hb); clear HB HK; have HB := nb_; have HK := nk_; clear nb_ nk_; have m0_ := zA (Ty.M_below M0.out hb); clear M0; have M0 := m0_; clear m0_; have m1_ := zA (Ty.M_below M1.out hb); clear M1; have M1 := m1_; clear m1_; clear hb hbox hg; have hczw1_1_0 : w1.cell? ⟨g1, 0, none⟩ = some (.slice A0 y0.length c0) := (blk_cell BK1.out 0).trans rfl; have hfzw1_1_0 := blk_frozen (w := w1) BK1.out 0; have hczw1_1_1 : w1.cell? ⟨g1, 1, none⟩ = some (.slice A1 y1.length c1) := (blk_cell BK1.out 1).trans rfl; have hfzw1_1_1 := blk_frozen (w := w1) BK1.out 1) | (go_at_call 31; (with_reducible refine gate_args (as_ := #[.slice A0 y0.length c0, .int .i64 (a)]) rfl ?_); refine (HelpBB.mark_calls y0 (.slice A0 y0.length c0) (fun k => p0 k ∧ w0.heap.size ≤ k ∧ k < w.heap.size) (a) w0 _ HB.out M0.out zq1 zq1 B0.out).mono ?_; rintro e w2 ⟨rfl, hm, hb, hk⟩; have n1_ := zA (show w2.heap[g1]? = _ from (hk.2 g1 (blk_lt BK1.out) (fun hh => by have h1 := hh.2.2; have h2 := GS1.out; omega)).trans BK1.out); have m1_ := zA (Ty.M_kept M1.out hk (fun k hk1 hk2 => ap0_1 k hk2.1 hk1.1)); have nk_ := zA (HK.out.then_ hk (fun k hk1 => .inl (in0 k hk1.1))); clear BK1 HB HK M0; have BK1 := n1_; have HB := zA hb; have HK := nk_; have M0 := zA hm; clear n1_ nk_ hm hb hk; clear M1; have M1 := m1_; clear m1_; have hczw2_1_0 : w2.cell? ⟨g1, 0, none⟩ = some (.slice A0 y0.length c0) := (blk_cell BK1.out 0).trans rfl; have hfzw2_1_0 := blk_frozen (w := w2) BK1.out 0; have hczw2_1_1 : w2.cell? ⟨g1, 1, none⟩ = some (.slice A1 y1.length c1) := (blk_cell BK1.out 1).trans rfl; have hfzw2_1_1 := blk_frozen (w := w2) BK1.out 1) | (go_at_call 31; (with_reducible refine gate_args (as_ := #[.slice A1 y1.length c1, .int .i64 (a + (HelpBB.cntBB y0 : Int))]) rfl ?_); refine (HelpBB.mark_calls y1 (.slice A1 y1.length c1) (fun k => q0 k ∧ w0.heap.size ≤ k ∧ k < w.heap.size) (a + (HelpBB.cntBB y0 : Int)) w0 _ HB.out M1.out zq1 zq1 B1.out).mono ?_; rintro e w3 ⟨rfl, hm, hb, hk⟩; have n1_ := zA (show w3.heap[g1]? = _ from (hk.2 g1 (blk_lt BK1.out) (fun hh => by have h1 := hh.2.2; have h2 := GS1.out; omega)).trans BK1.out); have m0_ := zA (Ty.M_kept M0.out hk (fun k hk1 hk2 => ap0_1 k hk1.1 hk2.1)); have nk_ := zA (HK.out.then_ hk (fun k hk1 => .inl (in1 k hk1.1))); clear BK1 HB HK M1; have BK1 := n1_; have HB := zA hb; have HK := nk_; have M1 := zA hm; clear n1_ nk_ hm hb hk; clear M0; have M0 := m0_; clear m0_; have hczw3_1_0 : w3.cell? ⟨g1, 0, none⟩ = some (.slice A0 y0.length c0) := (blk_cell BK1.out 0).trans rfl; have hfzw3_1_0 := blk_frozen (w := w3) BK1.out 0; have hczw3_1_1 : w3.cell? ⟨g1, 1, none⟩ = some (.slice A1 y1.length c1) := (blk_cell BK1.out 1).trans rfl; have hfzw3_1_1 := blk_frozen (w := w3) BK1.out 1))
 go_ret
 refine ⟨?_, ⟨_, rfl, ⟨_, _, p0, q0, rfl, hi0, ha0, HelpBB.tBB.M_mono (fun k hk => hk.1) M0.out, ⟨_, rfl, HelpBB.tBB.M_mono (fun k hk => hk.1) M1.out⟩⟩⟩, HB.out, HK.out⟩
 have e1 : a + (HelpBB.cntBB y0 : Int) + (HelpBB.cntBB y1 : Int) = a + ((HelpBB.cntBB y0 + HelpBB.cntBB y1 : Nat) : Int) := by omega
 exact congrArg (fun z => Ending.returned (Value.int .i64 z)) e1
set_option maxRecDepth 100000 in
set_option maxHeartbeats 4000000 in
theorem held_calls (x : X) (v : Value) (a : Int) (w : World) (h : tSta.K w (markSta a x) v) (a0 : 0 ≤ a) (a1 : a + cntSta x ≤ 1099511627776) (hb : bdSta x) :
  Calls Tryz.prog 15 #[v, .int .i64 a] w fun e w' => e = .returned (.int .i64 (a + cntSta x)) ∧ Grew w w' := by
 have huI := Tryz.underlying27
 obtain ⟨y0, y1⟩ := x
 obtain ⟨b0, b1⟩ := hb
 have B0 := zA b0
 clear b0
 have B1 := zA b1
 clear b1
 have a1' : a + ((HelpBB.cntBB y0 : Int) + (HelpBB.cntBB y1 : Int)) ≤ 1099511627776 := by have h1 : a + ((HelpBB.cntBB y0 + HelpBB.cntBB y1 : Nat) : Int) ≤ 1099511627776 := a1; omega
 clear a1
 obtain ⟨l, rfl, hl⟩ := h
 obtain ⟨u0, r0, rfl, h0, hl0⟩ := hl
 obtain ⟨u1, rfl, h1⟩ := hl0
 have h0 : HelpBB.tBB.K w (HelpBB.markBB (a) y0) u0 := h0
 obtain ⟨A0, c0, rfl, hc0, hr0⟩ := h0
 generalize hn0 : (HelpBB.markBB (a) y0).length = n0 at hc0 hr0
 have K0 := zA (show HelpBB.tBB.K w (HelpBB.markBB (a) y0) (.slice A0 n0 c0) from ⟨A0, c0, by rw [hn0], by rw [hn0]; exact hc0, by rw [hn0]; exact hr0⟩)
 clear hc0 hr0 hn0
 have h1 : HelpBB.tBB.K w (HelpBB.markBB (a + (HelpBB.cntBB y0 : Int)) y1) u1 := h1
 obtain ⟨A1, c1, rfl, hc1, hr1⟩ := h1
 generalize hn1 : (HelpBB.markBB (a + (HelpBB.cntBB y0 : Int)) y1).length = n1 at hc1 hr1
 have K1 := zA (show HelpBB.tBB.K w (HelpBB.markBB (a + (HelpBB.cntBB y0 : Int)) y1) (.slice A1 n1 c1) from ⟨A1, c1, by rw [hn1], by rw [hn1]; exact hc1, by rw [hn1]; exact hr1⟩)
 clear hc1 hr1 hn1
 show Calls _ _ #[.agg #[.slice A0 n0 c0, .slice A1 n1 c1], .int .i64 a] w _
 have HB := zA (Below.refl w.heap.size w)
 have nn0 : ¬ (a + (HelpBB.cntBB y0 : Int) < 0) := by omega
 have nn1 : ¬ (a + (HelpBB.cntBB y0 : Int) + (HelpBB.cntBB y1 : Int) < 0) := by omega
 go_enter Tryz.func15, Tryz.ntmps15
 go_wp2_with (first | ((with_reducible refine gate_dst (N := 2) rfl ?_); refine box_event ?hg (N := 2) ?hd (cs := #[.slice A0 n0 c0, .slice A1 n1 c1]) (t := 27) ?hr ?_; (case hd => rfl); (case hg => rfl); (case hr => first | (go_simp; done) | (go_simp; rfl)); intro g1 hg w1 hbox hb; have GS1 := zA (show w.heap.size = g1 from hg.symm); have nb_ := zA (below_step HB.out hb); have BK1 := zA hbox; have GE1 := zA ((by rw [hg]; exact HB.out.size) : w.heap.size ≤ g1); clear HB; have HB := nb_; clear nb_ hb hbox hg; have hczw1_1_0 : w1.cell? ⟨g1, 0, none⟩ = some (.slice A0 n0 c0) := (blk_cell BK1.out 0).trans rfl; have hfzw1_1_0 := blk_frozen (w := w1) BK1.out 0; have hczw1_1_1 : w1.cell? ⟨g1, 1, none⟩ = some (.slice A1 n1 c1) := (blk_cell BK1.out 1).trans rfl; have hfzw1_1_1 := blk_frozen (w := w1) BK1.out 1) | (go_at_call 32; (with_reducible refine gate_args (as_ := #[.slice A0 n0 c0, .int .i64 (a)]) rfl ?_); refine (HelpBB.held_calls y0 (.slice A0 n0 c0) (a) _ ?sa zq1 zq1 B0.out).mono ?_; (case sa => exact HelpBB.tBB.K_below zq0 K0.out); rintro e w2 ⟨rfl, hg⟩; have n1_ := zA (blk_below (g := g1) (o := .cells #[.slice A0 n0 c0, .slice A1 n1 c1] 27 (0, 0)) (by (with_reducible repeat (first | refine blk_drewN ?_ _ | refine blk_drew ?_ | refine blk_alloc ?_ _)); exact BK1.out) hg); have nb_ := zA (below_step zq0 hg); clear BK1 HB; have BK1 := n1_; have HB := nb_; clear n1_ nb_ hg; have hczw2_1_0 : w2.cell? ⟨g1, 0, none⟩ = some (.slice A0 n0 c0) := (blk_cell BK1.out 0).trans rfl; have hfzw2_1_0 := blk_frozen (w := w2) BK1.out 0; have hczw2_1_1 : w2.cell? ⟨g1, 1, none⟩ = some (.slice A1 n1 c1) := (blk_cell BK1.out 1).trans rfl; have hfzw2_1_1 := blk_frozen (w := w2) BK1.out 1) | (go_at_call 32; (with_reducible refine gate_args (as_ := #[.slice A1 n1 c1, .int .i64 (a + (HelpBB.cntBB y0 : Int))]) rfl ?_); refine (HelpBB.held_calls y1 (.slice A1 n1 c1) (a + (HelpBB.cntBB y0 : Int)) _ ?sa zq1 zq1 B1.out).mono ?_; (case sa => exact HelpBB.tBB.K_below zq0 K1.out); rintro e w3 ⟨rfl, hg⟩; have n1_ := zA (blk_below (g := g1) (o := .cells #[.slice A0 n0 c0, .slice A1 n1 c1] 27 (0, 0)) (by (with_reducible repeat (first | refine blk_drewN ?_ _ | refine blk_drew ?_ | refine blk_alloc ?_ _)); exact BK1.out) hg); have nb_ := zA (below_step zq0 hg); clear BK1 HB; have BK1 := n1_; have HB := nb_; clear n1_ nb_ hg; have hczw3_1_0 : w3.cell? ⟨g1, 0, none⟩ = some (.slice A0 n0 c0) := (blk_cell BK1.out 0).trans rfl; have hfzw3_1_0 := blk_frozen (w := w3) BK1.out 0; have hczw3_1_1 : w3.cell? ⟨g1, 1, none⟩ = some (.slice A1 n1 c1) := (blk_cell BK1.out 1).trans rfl; have hfzw3_1_1 := blk_frozen (w := w3) BK1.out 1))
 go_ret
 refine ⟨?_, zq0⟩
 have e1 : a + (HelpBB.cntBB y0 : Int) + (HelpBB.cntBB y1 : Int) = a + ((HelpBB.cntBB y0 + HelpBB.cntBB y1 : Nat) : Int) := by omega
 exact congrArg (fun z => Ending.returned (Value.int .i64 z)) e1
theorem form {w : World} {x : X} {v : Value} (h : tSta.K w x v) : ∃ (A0 : Option Addr) (c0 : Nat) (A1 : Option Addr) (c1 : Nat), v = .agg #[.slice A0 (x.1).length c0, .slice A1 (x.2).length c1] := by
 obtain ⟨y0, y1⟩ := x
 obtain ⟨l, rfl, hl⟩ := h
 obtain ⟨u0, r0, rfl, h0, hl0⟩ := hl
 obtain ⟨u1, rfl, h1⟩ := hl0
 obtain ⟨A0, c0, rfl, hc0, hr0⟩ := h0
 obtain ⟨A1, c1, rfl, hc1, hr1⟩ := h1
 exact ⟨A0, c0, A1, c1, rfl⟩
theorem sz_pure (x : X) (left : Int) (h0 : 0 ≤ left) (h1 : left ≤ 1048576) (hK : ∃ w v, tSta.K w x v) :
  ∃ r, (0 ≤ r → 0 ≤ r ∧ r ≤ left ∧ smallSta x) ∧ ∀ (w : World) {v : Value}, tSta.K w x v → Calls Tryz.prog 6 #[v, .int .i64 left] w fun e w' => e = .returned (.int .i64 r) ∧ Grew w w' := by
 obtain ⟨y0, y1⟩ := x
 obtain ⟨w0, v0, h⟩ := hK
 obtain ⟨l, rfl, hl⟩ := h
 obtain ⟨u0, r0, rfl, h0, hl0⟩ := hl
 obtain ⟨u1, rfl, h1⟩ := hl0
 obtain ⟨A0, c0, rfl, hc0, hr0⟩ := h0
 obtain ⟨A1, c1, rfl, hc1, hr1⟩ := h1
 have ev : ∃ r, Ev (fun k => laws_szState.f k y0 y1 left) r ∧ (0 ≤ r → r + (((y0.length + HelpBB.totalB y0 : Nat) : Int) + ((y1.length + HelpBB.totalB y1 : Nat) : Int)) = left) := by
  show ∃ r, Ev (fun k => (laws_szByteSS.f k y0 left).bind fun t0 => (if t0 < 0 then (some (-1)) else ((laws_szByteSS.f k y1 t0).bind fun t1 => (if t1 < 0 then (some (-1)) else (some t1))))) r ∧ _
  obtain ⟨r0, e0, k0⟩ := HelpBB.sz_ev y0 left zq1 zq1 ⟨w0, _, A0, c0, rfl, hc0, hr0⟩
  by_cases q0 : r0 < 0
  ·exact ⟨-1, (Ev.bind e0 (f := fun k t0 => (if t0 < 0 then (some (-1)) else ((laws_szByteSS.f k y1 t0).bind fun t1 => (if t1 < 0 then (some (-1)) else (some t1))))) (Ev.congr (f := fun _ => some (-1)) (fun k => if_pos q0) (Ev.now _))), zq1⟩
  have k0' := k0 zq1
  obtain ⟨r1, e1, k1⟩ := HelpBB.sz_ev y1 r0 zq1 zq1 ⟨w0, _, A1, c1, rfl, hc1, hr1⟩
  by_cases q1 : r1 < 0
  ·exact ⟨-1, (Ev.bind e0 (f := fun k t0 => (if t0 < 0 then (some (-1)) else ((laws_szByteSS.f k y1 t0).bind fun t1 => (if t1 < 0 then (some (-1)) else (some t1))))) (Ev.congr (f := fun k => (laws_szByteSS.f k y1 r0).bind fun t1 => (if t1 < 0 then (some (-1)) else (some t1))) (fun k => if_neg q0) (Ev.bind e1 (f := fun k t1 => (if t1 < 0 then (some (-1)) else (some t1))) (Ev.congr (f := fun _ => some (-1)) (fun k => if_pos q1) (Ev.now _))))), zq1⟩
  have k1' := k1 zq1
  exact ⟨r1, (Ev.bind e0 (f := fun k t0 => (if t0 < 0 then (some (-1)) else ((laws_szByteSS.f k y1 t0).bind fun t1 => (if t1 < 0 then (some (-1)) else (some t1))))) (Ev.congr (f := fun k => (laws_szByteSS.f k y1 r0).bind fun t1 => (if t1 < 0 then (some (-1)) else (some t1))) (fun k => if_neg q0) (Ev.bind e1 (f := fun k t1 => (if t1 < 0 then (some (-1)) else (some t1))) (Ev.congr (f := fun _ => some r1) (fun k => if_neg q1) (Ev.now _))))), fun _ => by omega⟩
 obtain ⟨r, hr, hq⟩ := ev
 obtain ⟨k, hk⟩ := hr.rounds
 clear hc0 hr0 hc1 hr1
 refine ⟨r, fun h => ⟨h, by have := hq h; omega, by show (y0.length + HelpBB.totalB y0) + (y1.length + HelpBB.totalB y1) ≤ 1048576; have := hq h; omega⟩, fun w v h => ?_⟩
 obtain ⟨lz, rfl, hlz⟩ := h
 obtain ⟨u0z, r0z, rfl, h0z, hl0z⟩ := hlz
 obtain ⟨u1z, rfl, h1z⟩ := hl0z
 obtain ⟨A0z, c0z, rfl, hc0z, hr0z⟩ := h0z
 obtain ⟨A1z, c1z, rfl, hc1z, hr1z⟩ := h1z
 show Calls _ _ #[.agg #[.slice A0z y0.length c0z, .slice A1z y1.length c1z], .int .i64 left] w _
 refine (laws_szState.calls k _ _ _ _ _ _ left r w hr0z hc0z hr1z hc1z hk).mono ?_
 rintro e w' ⟨rfl, h⟩
 exact ⟨rfl, pw_grow (by first | exact h | exact h.below)⟩
end Go.Proofs.YtmgmdnmfalepkaaGreat.HelpSta

namespace Go.Proofs.YtmgmdnmfalepkaaGreat.Rep
open Go Go.RowKit Go.Proofs.YtmgmdnmfalepkaaGreatW.PrintWords Go.Proofs.YtmgmdnmfalepkaaGreatW.PrintMore Go.Proofs.YtmgmdnmfalepkaaGreat.Kit
set_option linter.unusedVariables false
theorem run_copy_rows (P : Program) (w : World) (dT sT ty elem : TypeId) (sz g o dLen dCap : Nat) (a : Addr) (sLen sCap : Nat) (cur : Array Value) (t : TypeId) (cs : List Value)
  (hu : P.underlying dT = some (.slice elem)) (hs : (P.info? elem).map (·.size) = some sz)
  (hg : w.heap[g]? = some (.cells cur t (0, 0))) (hn : cs.length = Nat.min sLen dLen * sz)
  (hsrc : ∀ j v, cs[j]? = some v → w.cell? (a.add j) = some v) (hfit : o + cs.length ≤ cur.size) (h1 : ∀ v ∈ cs, v.oneCell' = true) :
  (Builtin.copy_ #[dT, sT] ty #[.slice (some ⟨g, o, none⟩) dLen dCap, .slice (some a) sLen sCap]).run P w =
   .ok (goInt (Nat.min sLen dLen : Nat)) (w.setRow g (cur.toList.take o ++ cs ++ cur.toList.drop (o + cs.length)).toArray) := by
 have hl := run_loadCells_list (P := P) w a cs hsrc
 have hst := run_storeCells_at P g o t cs 0 cur w hg (by simpa using hfit) h1
 cases hq : P.info? elem with
 | none => simp [hq] at hs
 | some i =>
  have hi : i.size = sz := by simpa [hq] using hs
  simp [Builtin.copy_, run_underlying hu, Builtin.lenOf, Builtin.firstCells, sizeOf, typeInfo, hq, hi, ← hn, hl, hst]
theorem run_clear_rows (P : Program) (w : World) (t e ty : TypeId) (z : Value) (zs : List Value) (ht : P.underlying t = some (.slice e)) (hv : ∀ w, (zeroValue e).run P w = .ok z w) (g o n c : Nat) (hn : 0 < n) (hz : (Builtin.zeroCells z.cells n).toList = zs)
  (cur : Array Value) (tt : TypeId) (hg : w.heap[g]? = some (.cells cur tt (0, 0))) (hfit : o + zs.length ≤ cur.size) (h1 : ∀ v ∈ zs, v.oneCell' = true) :
  (Builtin.clear_ #[t] ty #[.slice (some ⟨g, o, none⟩) n c]).run P w = .ok (.tuple #[]) (w.setRow g (cur.toList.take o ++ zs ++ cur.toList.drop (o + zs.length)).toArray) := by
 have hst := run_storeCells_at P g o tt zs 0 cur w hg (by simpa using hfit) h1
 obtain ⟨m, rfl⟩ : ∃ m, n = m + 1 := ⟨n - 1, zq1⟩
 simp only [Nat.add_zero] at hst
 simp [Builtin.clear_, run_underlying ht, hv, hz, hst]
section
variable {P : Program} {ops : Array Oper} {rest : List Oper} {o : Oper} {a : Act} {Q : Exit → Act → World → Prop}
theorem kept_setRow (w : World) (g : Nat) (cs : Array Value) : Kept w (w.setRow g cs) (fun k => k = g) :=
 ⟨by simp [World.setRow], fun k _ hne => setRow_other w g k cs hne⟩
def Wrote (B : Nat) (w0 w w' : World) (g : Nat) (row : List Value) (t : TypeId) : Prop := w'.heap[g]? = some (.cells row.toArray t (0, 0)) ∧ Below B w0 w' ∧ Kept w w' (fun k => k = g)
theorem wpList_copy_rows {w : World} (hgd : o.guard = none) (d s : Operand) (dT sT : TypeId)
  (ho : o.op = .call { callee := .builtin .copy, args := #[d, s], argTypes := #[dT, sT] }) (elem : TypeId) (sz : Nat) (hu : P.underlying dT = some (.slice elem)) (hsz : (P.info? elem).map (·.size) = some sz)
  (g off dLen dCap : Nat) (ad : Addr) (sLen sCap : Nat) (hd : a.eval d = .slice (some ⟨g, off, none⟩) dLen dCap) (hs : a.eval s = .slice (some ad) sLen sCap)
  (cur : List Value) (t : TypeId) (hg : w.heap[g]? = some (.cells cur.toArray t (0, 0))) (cs : List Value) (hn : cs.length = Nat.min sLen dLen * sz)
  (hsrc : ∀ j v, cs[j]? = some v → w.cell? (ad.add j) = some v) (hfit : off + cs.length ≤ cur.length) (h1 : ∀ v ∈ cs, v.oneCell' = true) (B : Nat) (w0 : World) (hb : Below B w0 w) (hBg : B ≤ g)
  (h : ∀ w', Wrote B w0 w w' g (splice cur off cs) t → wpList P ops Q rest (a.put o.dst (goInt (Nat.min sLen dLen : Nat))) w') :
  wpList P ops Q (o :: rest) a w := by
 refine wpList_plain hgd fun K hK => ?_
 have hrun := run_copy_rows P w dT sT o.type elem sz g off dLen dCap ad sLen sCap cur.toArray t cs hu hsz hg hn hsrc (by simpa using hfit) h1
 unfold Oper.wp
 simp [execOp, ho, resolve, invoke, builtin, hd, hs, hrun, Result.andThen]
 exact hK _ _ (h _ ⟨by simpa [splice] using setRow_heap w g _ _ t _ hg, below_setRow hb hBg _, kept_setRow w g _⟩)
theorem step_copy_rows {w : World} {K : Act → World → Prop} {E : Prop} (hgd : o.guard = none) (d s : Operand) (dT sT : TypeId)
  (ho : o.op = .call { callee := .builtin .copy, args := #[d, s], argTypes := #[dT, sT] }) (elem : TypeId) (sz : Nat) (hu : P.underlying dT = some (.slice elem)) (hsz : (P.info? elem).map (·.size) = some sz)
  (g off dLen dCap : Nat) (ad : Addr) (sLen sCap : Nat) (hd : a.eval d = .slice (some ⟨g, off, none⟩) dLen dCap) (hs : a.eval s = .slice (some ad) sLen sCap)
  (cur : List Value) (t : TypeId) (hg : w.heap[g]? = some (.cells cur.toArray t (0, 0))) (cs : List Value) (hn : cs.length = Nat.min sLen dLen * sz)
  (hsrc : ∀ j v, cs[j]? = some v → w.cell? (ad.add j) = some v) (hfit : off + cs.length ≤ cur.length) (h1 : ∀ v ∈ cs, v.oneCell' = true) (B : Nat) (w0 : World) (hb : Below B w0 w) (hBg : B ≤ g)
  (h : ∀ w', Wrote B w0 w w' g (splice cur off cs) t → K (a.put o.dst (goInt (Nat.min sLen dLen : Nat))) w') :
  if Region.wanted o (yielded ops a.tmps) = true then Oper.wp P o a w K Q else E := by
 have hw : Region.wanted o (yielded ops a.tmps) = true := by simp [Region.wanted, hgd]
 rw [if_pos hw]
 have hrun := run_copy_rows P w dT sT o.type elem sz g off dLen dCap ad sLen sCap cur.toArray t cs hu hsz hg hn hsrc (by simpa using hfit) h1
 unfold Oper.wp
 simp [execOp, ho, resolve, invoke, builtin, hd, hs, hrun, Result.andThen]
 exact h _ ⟨by simpa [splice] using setRow_heap w g _ _ t _ hg, below_setRow hb hBg _, kept_setRow w g _⟩
theorem wpList_clear_rows {w : World} (hgd : o.guard = none) (s : Operand) (sT : TypeId)
  (ho : o.op = .call { callee := .builtin .clear, args := #[s], argTypes := #[sT] }) (e : TypeId) (z : Value) (zs : List Value) (ht : P.underlying sT = some (.slice e)) (hv : ∀ w, (zeroValue e).run P w = .ok z w)
  (g off n c : Nat) (hn : 0 < n) (hs : a.eval s = .slice (some ⟨g, off, none⟩) n c) (hz : (Builtin.zeroCells z.cells n).toList = zs)
  (cur : List Value) (t : TypeId) (hg : w.heap[g]? = some (.cells cur.toArray t (0, 0))) (hfit : off + zs.length ≤ cur.length) (h1 : ∀ v ∈ zs, v.oneCell' = true) (B : Nat) (w0 : World) (hb : Below B w0 w) (hBg : B ≤ g)
  (h : ∀ w', Wrote B w0 w w' g (splice cur off zs) t → wpList P ops Q rest (a.put o.dst (.tuple #[])) w') :
  wpList P ops Q (o :: rest) a w := by
 refine wpList_plain hgd fun K hK => ?_
 have hrun := run_clear_rows P w sT e o.type z zs ht hv g off n c hn hz cur.toArray t hg (by simpa using hfit) h1
 unfold Oper.wp
 simp [execOp, ho, resolve, invoke, builtin, hs, hrun, Result.andThen]
 exact hK _ _ (h _ ⟨by simpa [splice] using setRow_heap w g _ _ t _ hg, below_setRow hb hBg _, kept_setRow w g _⟩)
theorem wpList_append_place {w : World} (hgd : o.guard = none) (s x : Operand) (t e : TypeId)
  (ho : o.op = .call { callee := .builtin .append, args := #[s, x], argTypes := #[t, t] }) (i : TypeInfo) (ht : P.underlying t = some (.slice e)) (hi : P.info? e = some i) (sz : Nat) (hsz : i.size = sz)
  (g sLen sCap : Nat) (hs : a.eval s = .slice (some ⟨g, 0, none⟩) sLen sCap) (cur : List Value) (hg : w.heap[g]? = some (.cells cur.toArray e (0, 0)))
  (ad : Addr) (m c : Nat) (hx : a.eval x = .slice (some ad) m c) (news : List Value) (hl : news.length = m * sz) (hnews : ∀ j u, news[j]? = some u → w.cell? (ad.add j) = some u) (h1 : ∀ u ∈ news, u.oneCell' = true)
  (hroom : sLen + m ≤ sCap) (hfit : sLen * sz + news.length ≤ cur.length) (B : Nat) (w0 : World) (hb : Below B w0 w) (hBg : B ≤ g)
  (h : ∀ w', Wrote B w0 w w' g (splice cur (sLen * sz) news) e → wpList P ops Q rest (a.put o.dst (.slice (some ⟨g, 0, none⟩) (sLen + m) sCap)) w') :
  wpList P ops Q (o :: rest) a w := by
 refine wpList_plain hgd fun K hK => ?_
 subst hsz
 have hrun := run_append_room (P := P) w t o.type e i ht hi g sLen sCap cur.toArray hg ad m c news hl hnews h1 hroom (by simpa using hfit)
 unfold Oper.wp
 simp [execOp, ho, resolve, invoke, builtin, hs, hx, hrun, Result.andThen]
 exact hK _ _ (h _ ⟨by simpa [splice] using setRow_heap w g _ _ e _ hg, below_setRow hb hBg _, kept_setRow w g _⟩)
end
end Go.Proofs.YtmgmdnmfalepkaaGreat.Rep
