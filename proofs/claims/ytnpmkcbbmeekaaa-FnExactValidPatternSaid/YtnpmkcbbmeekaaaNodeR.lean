/- The program's rep: a node for a repetition, for every node of size at most 501 and every pair of numbers that a text of four digits can tell. -/
import Derived.Test.YtnpmkcbbmeekaaaNode
namespace Go.Proofs.Ytnpmkcbbmeekaaa.Node
open Go.RowKit Go.Proofs.YtnpmkcbbmeekaaaW.PrintWords Go.Proofs.YtnpmkcbbmeekaaaW.PrintMore Go.Proofs.Ytnpmkcbbmeekaaa.Kit Go.Proofs.Ytnpmkcbbmeekaaa.Bits
set_option linter.unusedVariables false
attribute [local go_sem] max2_int min2_int max_two min_two

def repN (c lo hi : Int) : Int := if hi = -1 then max 1 lo * c + 1 else if hi = 0 then c else lo * c + (hi - lo) * (c + 1)
def mkRep (x : Nd) (lo hi : Int) : Nd := .rep x lo hi (cap (repN (size x) lo hi))
theorem mul_bd {a b A B : Int} (a0 : 0 ≤ a) (a1 : a ≤ A) (b0 : 0 ≤ b) (b1 : b ≤ B) : 0 ≤ a * b ∧ a * b ≤ A * B :=
  ⟨Int.mul_nonneg a0 b0, Int.mul_le_mul a1 b1 b0 (by omega)⟩
theorem mul_bd' {a b A B : Int} (a0 : -A ≤ a) (a1 : a ≤ A) (b0 : 0 ≤ b) (b1 : b ≤ B) : -(A * B) ≤ a * b ∧ a * b ≤ A * B := by
  by_cases h : 0 ≤ a
  · have := mul_bd h a1 b0 b1
    have := Int.mul_nonneg (show 0 ≤ A by omega) (show 0 ≤ B by omega)
    omega
  · have h1 := mul_bd (a := -a) (A := A) (by omega) (by omega) b0 b1
    have h2 : -a * b = -(a * b) := Int.neg_mul a b
    have := Int.mul_nonneg (show 0 ≤ A by omega) (show 0 ≤ B by omega)
    omega
set_option maxRecDepth 100000 in
set_option maxHeartbeats 1000000 in
theorem rep_val (T0 : TypeId) (d0 : Value) (K0 : Nat) (c lo hi : Int) (h0 : Sized (.iface T0 d0) c T0 d0 K0) (w : World) (b00 : 0 ≤ c) (b01 : c ≤ 501) (l0 : 0 ≤ lo) (l1 : lo ≤ 9999) (i0 : -1 ≤ hi) (i1 : hi ≤ 9999) :
    Calls Try.prog 72 #[.iface T0 d0, .int .i64 lo, .int .i64 hi] w fun e w' => Is (.iface 122 (.agg #[.iface T0 d0, .int .i64 lo, .int .i64 hi, .int .i64 (cap (repN c lo hi))])) e ∧ Grew w w' := by
  have hm0 := h0.met
  have he0 := h0.ent
  have hc0 := h0.call
  clear h0
  obtain ⟨p0, p1⟩ := mul_bd l0 l1 b00 b01
  obtain ⟨q0, q1⟩ := mul_bd' (a := hi - lo) (A := 20000) (B := 502) (b := c + 1) (by omega) (by omega) (by omega) (by omega)
  by_cases hn : hi = -1
  · have HN := Aside0.mk (show repN c lo hi = max 1 lo * c + 1 from if_pos hn)
    subst hn
    clear q0 q1
    by_cases h1 : lo ≤ 1
    · have hmx : max 1 lo = 1 := by omega
      rw [hmx] at HN
      have hl : ¬ 1 < lo := by omega
      clear hmx h1
      go_enter Try.func72, Try.ntmps72
      go_wp2_with (first | (go_at_fn K0; refine (hc0 _).mono ?_; rintro e w1 ⟨rfl, hb0⟩) | (go_at_call 83; refine (capped_calls _ _).mono ?_; rintro e w' ⟨rfl, rfl⟩))
      go_ret
      exact ⟨by rw [HN.out]; simp [Is], hb0⟩
    · have hmx : max 1 lo = lo := by omega
      rw [hmx] at HN
      have hl : 1 < lo := by omega
      clear hmx h1
      go_enter Try.func72, Try.ntmps72
      go_wp2_with (first | (go_at_fn K0; refine (hc0 _).mono ?_; rintro e w1 ⟨rfl, hb0⟩) | (go_at_call 83; refine (capped_calls _ _).mono ?_; rintro e w' ⟨rfl, rfl⟩))
      go_ret
      exact ⟨by rw [HN.out]; simp [Is], hb0⟩
  · have hnb : (hi == -1) = false := beq_eq_false_iff_ne.mpr hn
    by_cases h0 : hi = 0
    · have HN := Aside0.mk (show repN c lo hi = c by unfold repN; rw [if_neg hn, if_pos h0])
      subst h0
      clear hn q0 q1
      go_enter Try.func72, Try.ntmps72
      go_wp2_with (first | (go_at_fn K0; refine (hc0 _).mono ?_; rintro e w1 ⟨rfl, hb0⟩) | (go_at_call 83; refine (capped_calls _ _).mono ?_; rintro e w' ⟨rfl, rfl⟩))
      go_ret
      exact ⟨by rw [HN.out]; simp [Is], hb0⟩
    · have h0b : (hi == 0) = false := beq_eq_false_iff_ne.mpr h0
      have HN := Aside0.mk (show repN c lo hi = lo * c + (hi - lo) * (c + 1) by unfold repN; rw [if_neg hn, if_neg h0])
      clear hn h0
      go_enter Try.func72, Try.ntmps72
      go_wp2_with (first | (go_at_fn K0; refine (hc0 _).mono ?_; rintro e w1 ⟨rfl, hb0⟩) | (go_at_call 83; refine (capped_calls _ _).mono ?_; rintro e w' ⟨rfl, rfl⟩))
      go_ret
      exact ⟨by rw [HN.out]; simp [Is], hb0⟩
theorem repN_nonneg {c lo hi : Int} (hc : 0 ≤ c) (hl : 0 ≤ lo) (hh : hi = -1 ∨ lo ≤ hi) : 0 ≤ repN c lo hi := by
  unfold repN
  split
  · have := Int.mul_nonneg (show 0 ≤ max 1 lo by omega) hc
    omega
  · split
    · exact hc
    · have h1 := Int.mul_nonneg hl hc
      have h2 := Int.mul_nonneg (show 0 ≤ hi - lo by omega) (show 0 ≤ c + 1 by omega)
      omega
theorem rep_calls (x : Nd) (lo hi : Int) (w : World) (b0 : 0 ≤ size x) (b1 : size x ≤ 501) (l0 : 0 ≤ lo) (l1 : lo ≤ 9999) (i0 : -1 ≤ hi) (i1 : hi ≤ 9999) : Calls Try.prog 72 #[nodeV x, .int .i64 lo, .int .i64 hi] w fun e w' => e = .returned (nodeV (mkRep x lo hi)) ∧ Grew w w' := by
  obtain ⟨T0, d0, K0, h0⟩ := sized x
  have e0 := h0.val
  rw [e0] at h0
  have := rep_val T0 d0 K0 (size x) lo hi h0 w b0 b1 l0 l1 i0 i1
  rw [mkRep, nodeV, e0]
  exact this
end Go.Proofs.Ytnpmkcbbmeekaaa.Node
