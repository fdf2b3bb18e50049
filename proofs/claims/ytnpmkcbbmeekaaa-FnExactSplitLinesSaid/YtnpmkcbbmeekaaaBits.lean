/- byteSet's methods add and span, and setOf: a set of bytes as four words of 64 bits, told by one number whose bit b says whether b is in the set. -/
import Derived.Test.YtnpmkcbbmeekaaaKit
import Derived.BigRegion
import Derived.Laws.Bits64b
namespace Go.Proofs.Ytnpmkcbbmeekaaa.Bits
open Go.RowKit Go.Proofs.YtnpmkcbbmeekaaaW.PrintWords Go.Proofs.YtnpmkcbbmeekaaaW.PrintMore Go.Proofs.Ytnpmkcbbmeekaaa.Kit
set_option linter.unusedVariables false

/-- Word j of the set. -/
def word (m j : Nat) : Nat := (m >>> (64 * j)) % 2 ^ 64
theorem word_lt (m j : Nat) : word m j < 18446744073709551616 := Nat.mod_lt _ (by decide)
theorem word_at (m b : Nat) : word (m ||| 2 ^ b) (b / 64) = word m (b / 64) ||| 2 ^ (b % 64) := by
  apply Nat.eq_of_testBit_eq
  intro i
  simp only [word, Nat.testBit_mod_two_pow, Nat.testBit_shiftRight, Nat.testBit_or, Nat.testBit_two_pow]
  by_cases hi : i < 64
  · have e : decide (b = 64 * (b / 64) + i) = decide (b % 64 = i) := by
      rw [decide_eq_decide]; omega
    simp [hi, e]
  · have : ¬ b % 64 = i := by omega
    simp [hi, this]
theorem word_other (m b j : Nat) (h : j ≠ b / 64) : word (m ||| 2 ^ b) j = word m j := by
  apply Nat.eq_of_testBit_eq
  intro i
  simp only [word, Nat.testBit_mod_two_pow, Nat.testBit_shiftRight, Nat.testBit_or, Nat.testBit_two_pow]
  by_cases hi : i < 64
  · have e : ¬ b = 64 * j + i := by omega
    simp [hi, e]
  · simp [hi]
/-- The four words, as they lie in a byteSet. -/
def words (m : Nat) : Array Value := #[.int .u64 (word m 0 : Nat), .int .u64 (word m 1 : Nat), .int .u64 (word m 2 : Nat), .int .u64 (word m 3 : Nat)]
def Arr (w : World) (g m : Nat) : Prop := w.heap[g]? = some (.cells (words m) 104 (0, 0))
theorem Arr.lt {w : World} {g m : Nat} (h : Arr w g m) : g < w.heap.size := (Array.getElem?_eq_some_iff.1 h).1
theorem Arr.cell {w : World} {g m : Nat} (h : Arr w g m) (j : Nat) (hj : j < 4) : w.cell? ⟨g, j, none⟩ = some (.int .u64 (word m j : Nat)) := by
  unfold Arr at h
  have e : w.cell? ⟨g, j, none⟩ = (words m)[j]? := by simp [World.cell?, h]
  rw [e]
  match j, hj with
  | 0, _ => rfl
  | 1, _ => rfl
  | 2, _ => rfl
  | 3, _ => rfl
theorem Arr.frozen {w : World} {g m : Nat} (h : Arr w g m) (j : Nat) : w.frozen? ⟨g, j, none⟩ = false := by
  unfold Arr at h
  simp [World.frozen?, h]
theorem Arr.set {w : World} {g m b : Nat} (h : Arr w g m) (hb : b < 256) : Arr (w.setCell ⟨g, b / 64, none⟩ (.int .u64 ((word m (b / 64) ||| 2 ^ (b % 64) : Nat) : Int))) g (m ||| 2 ^ b) := by
  unfold Arr at h ⊢
  have e : (w.setCell ⟨g, b / 64, none⟩ (.int .u64 ((word m (b / 64) ||| 2 ^ (b % 64) : Nat) : Int))).heap[g]? = some (.cells ((words m).setIfInBounds (b / 64) (.int .u64 ((word m (b / 64) ||| 2 ^ (b % 64) : Nat) : Int))) 104 (0, 0)) := by
    simp only [World.setCell, Array.getElem?_modify, if_true, h]
    rfl
  rw [e, ← word_at]
  have ho : ∀ j, j ≠ b / 64 → word (m ||| 2 ^ b) j = word m j := fun j hj => word_other m b j hj
  have hq : b / 64 < 4 := by omega
  generalize b / 64 = q at ho hq
  unfold words
  match q, hq with
  | 0, _ => rw [ho 1 (by decide), ho 2 (by decide), ho 3 (by decide)]; rfl
  | 1, _ => rw [ho 0 (by decide), ho 2 (by decide), ho 3 (by decide)]; rfl
  | 2, _ => rw [ho 0 (by decide), ho 1 (by decide), ho 3 (by decide)]; rfl
  | 3, _ => rw [ho 0 (by decide), ho 1 (by decide), ho 2 (by decide)]; rfl
theorem grown_set (w : World) (g o : Nat) (v : Value) : w.grownBy (w.setCell ⟨g, o, none⟩ v) (some g) :=
  ⟨rfl, rfl, rfl, by simp [World.setCell], fun k _ hne => Below.heap_setCell _ _ _ _ (fun e => hne (by rw [e]))⟩
theorem Arr.kept {w w1 : World} {g m : Nat} {row : Option Nat} (h : Arr w g m) (hg : w.grownBy w1 row) (hne : some g ≠ row) : Arr w1 g m := (hg.block g h.lt hne).trans h
theorem Arr.grew {w w1 : World} {g m : Nat} (h : Arr w g m) (hb : Below w.heap.size w w1) : Arr w1 g m := h.kept (grown_of_below hb none) (by simp)
theorem grown_trans {w w1 w2 : World} {row : Option Nat} (h : w.grownBy w1 row) (k : w1.grownBy w2 row) : w.grownBy w2 row :=
  ⟨k.os.trans h.os, k.tape.trans h.tape, k.output.trans h.output, Nat.le_trans h.size k.size, fun i hi hne => (k.block i (Nat.lt_of_lt_of_le hi h.size) hne).trans (h.block i hi hne)⟩
theorem grown_refl (w : World) (row : Option Nat) : w.grownBy w row := ⟨rfl, rfl, rfl, Nat.le_refl _, fun _ _ _ => rfl⟩
theorem or_bits (x b : Nat) (hx : x < 18446744073709551616) : bits .or .u64 (x : Int) (IntKind.u64.wrap (2 ^ (b % 64))) = ((x ||| 2 ^ (b % 64) : Nat) : Int) := by
  have h2 : 2 ^ (b % 64) < 18446744073709551616 := Nat.lt_of_lt_of_le (Nat.pow_lt_pow_right (by decide) (Nat.mod_lt b (by decide : 64 > 0))) (by decide)
  have e : IntKind.u64.wrap (2 ^ (b % 64)) = ((2 ^ (b % 64) : Nat) : Int) := by
    rw [show ((2 : Int) ^ (b % 64)) = ((2 ^ (b % 64) : Nat) : Int) from by rw [Int.natCast_pow]; rfl]
    generalize 2 ^ (b % 64) = y at h2 ⊢
    rw [IntKind.wrap_u64]
    omega
  rw [e]
  exact bits_or_u64_nat x _ hx h2

theorem grown_drew {w w1 : World} {row : Option Nat} (h : w.grownBy w1 row) : w.grownBy w1.drew row := ⟨h.os, h.tape, h.output, h.size, h.block⟩
def Added (g m : Nat) (w : World) (e : Ending) (w' : World) : Prop := e = .returned (.tuple #[]) ∧ Arr w' g m ∧ w.grownBy w' (some g)
set_option maxHeartbeats 1000000 in
theorem add_calls (g b m : Nat) (w : World) (hb : b < 256) (ha : Arr w g m) :
    Calls Try.prog 86 #[.pointer (some ⟨g, 0, none⟩), .int .u8 b] w (Added g (m ||| 2 ^ b) w) := by
  have hc := ha.cell (b / 64) (by omega)
  have hf := ha.frozen (b / 64)
  have hx := word_lt m (b / 64)
  have hs := ha.set hb
  have ho := or_bits (word m (b / 64)) b hx
  have HS := Aside0.mk hs
  have HO := Aside0.mk ho
  clear hs ho ha
  have hx0 : (0 : Int) ≤ (word m (b / 64) : Nat) := by omega
  generalize hxx : ((word m (b / 64) : Nat) : Int) = x at hc hx0
  have HX := Aside0.mk hxx
  clear hxx hx
  go_enter Try.func86, Try.ntmps86
  go_wp2
  go_region
  go_wp2
  go_end0
  refine ⟨rfl, ?_⟩
  rw [← HX.out, HO.out]
  exact ⟨HS.out, grown_drew (grown_set _ _ _ _)⟩

/-- Bits lo .. lo + n - 1 put in. -/
def spanM (m lo : Nat) : Nat → Nat
  | 0 => m
  | n + 1 => spanM m lo n ||| 2 ^ (lo + n)

set_option maxHeartbeats 1000000 in
theorem span_calls (g lo hi m : Nat) (w : World) (hl : lo < 256) (hh : hi < 256) (ha : Arr w g m) :
    Calls Try.prog 82 #[.pointer (some ⟨g, 0, none⟩), .int .u8 lo, .int .u8 hi] w (Added g (spanM m lo (hi + 1 - lo)) w) := by
  have HA := Aside0.mk ha
  clear ha
  go_enter Try.func82, Try.ntmps82
  go_wp2
  go_loopg [6] (hi + 1 - lo) (fun gg s6 wr => ∃ b : Nat, lo ≤ b ∧ (b ≤ hi + 1 ∨ b = lo) ∧ hi + 1 - b ≤ gg ∧ s6 = .int .i64 b ∧ Aside0 (Arr wr g (spanM m lo (b - lo))) ∧ Aside0 (w.grownBy wr (some g)))
  case atStart => exact ⟨lo, Nat.le_refl _, .inr rfl, Nat.le_refl _, rfl, ⟨by rw [Nat.sub_self]; exact HA.out⟩, ⟨grown_refl _ _⟩⟩
  case round =>
    obtain ⟨b, hb0, hb1, hg, rfl, HR, HG⟩ := hrel
    by_cases hlt : b ≤ hi
    · have hltz : (b : Int) ≤ (hi : Int) := by omega
      have hcall := add_calls g b (spanM m lo (b - lo)) wr (by omega) HR.out
      have HE := Aside0.mk (show spanM m lo (b - lo) ||| 2 ^ b = spanM m lo (b + 1 - lo) by
        rw [show b + 1 - lo = (b - lo) + 1 from by omega]
        show _ = spanM m lo (b - lo) ||| 2 ^ (lo + (b - lo))
        rw [show lo + (b - lo) = b from by omega])
      have hb256 : (b : Int) < 256 := by omega
      go_wp2_with (go_at_call 86; refine hcall.mono ?_; rintro e w' ⟨rfl, ha', hg'⟩)
      go_roundg (hi + 1 - (b + 1))
      case measure => omega
      case rel => exact ⟨b + 1, by omega, .inl (by omega), by omega, by go_num, ⟨by rw [← HE.out]; exact ha'⟩, ⟨grown_trans HG.out hg'⟩⟩
    · have hltz : ¬ (b : Int) ≤ (hi : Int) := by omega
      go_wp2
      go_end0
      refine ⟨rfl, ?_, HG.out⟩
      have e : b - lo = hi + 1 - lo := by omega
      rw [← e]
      exact HR.out
end Go.Proofs.Ytnpmkcbbmeekaaa.Bits
