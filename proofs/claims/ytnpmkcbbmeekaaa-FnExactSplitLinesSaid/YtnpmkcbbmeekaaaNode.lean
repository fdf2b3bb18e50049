/- The program's nodes: their sizes, and cat, alt, rep. -/
import Derived.Test.YtnpmkcbbmeekaaaSetOf
namespace Go.Proofs.Ytnpmkcbbmeekaaa.Node
open Go.RowKit Go.Proofs.YtnpmkcbbmeekaaaW.PrintWords Go.Proofs.YtnpmkcbbmeekaaaW.PrintMore Go.Proofs.Ytnpmkcbbmeekaaa.Kit Go.Proofs.Ytnpmkcbbmeekaaa.Bits
set_option linter.unusedVariables false
attribute [local go_sem] max2_int min2_int max_two min_two

inductive Nd where
  | empty
  | set (m : Nat)
  | cat (l r : Nd) (n : Int)
  | alt (l r : Nd) (n : Int)
  | rep (x : Nd) (lo hi n : Int)
/-- A node, as a value of the interface. -/
def nodeV : Nd → Value
  | .empty => .iface 101 (.agg #[])
  | .set m => .iface 107 (.agg (words m))
  | .cat l r n => .iface 119 (.agg #[nodeV l, nodeV r, .int .i64 n])
  | .alt l r n => .iface 120 (.agg #[nodeV l, nodeV r, .int .i64 n])
  | .rep x lo hi n => .iface 122 (.agg #[nodeV x, .int .i64 lo, .int .i64 hi, .int .i64 n])
def size : Nd → Int
  | .empty => 1
  | .set _ => 1
  | .cat _ _ n => n
  | .alt _ _ n => n
  | .rep _ _ _ n => n

theorem size_empty (w : World) : Calls Try.prog 103 #[.agg #[]] w fun e w' => e = .returned (.int .i64 1) ∧ Grew w w' := by
  go_enter Try.func103, Try.ntmps103
  go_wp2
  go_ret
  exact ⟨rfl, below_alloc (Below.refl _ _) _⟩
theorem size_set (m : Nat) (w : World) : Calls Try.prog 105 #[.agg (words m)] w fun e w' => e = .returned (.int .i64 1) ∧ Grew w w' := by
  unfold words
  go_enter Try.func105, Try.ntmps105
  go_wp2
  go_ret
  exact ⟨rfl, below_alloc (Below.refl _ _) _⟩
theorem size_cat (a b : Value) (n : Int) (w : World) : Calls Try.prog 106 #[.agg #[a, b, .int .i64 n]] w fun e w' => e = .returned (.int .i64 n) ∧ Grew w w' := by
  go_enter Try.func106, Try.ntmps106
  go_wp2
  go_ret
  exact ⟨rfl, below_alloc (Below.refl _ _) _⟩
theorem size_alt (a b : Value) (n : Int) (w : World) : Calls Try.prog 107 #[.agg #[a, b, .int .i64 n]] w fun e w' => e = .returned (.int .i64 n) ∧ Grew w w' := by
  go_enter Try.func107, Try.ntmps107
  go_wp2
  go_ret
  exact ⟨rfl, below_alloc (Below.refl _ _) _⟩
theorem size_rep (a : Value) (lo hi n : Int) (w : World) : Calls Try.prog 108 #[.agg #[a, .int .i64 lo, .int .i64 hi, .int .i64 n]] w fun e w' => e = .returned (.int .i64 n) ∧ Grew w w' := by
  go_enter Try.func108, Try.ntmps108
  go_wp2
  go_ret
  exact ⟨rfl, below_alloc (Below.refl _ _) _⟩
def cap (n : Int) : Int := if 501 < n then 501 else n
def Is (v : Value) (e : Ending) : Prop := e = .returned v
theorem capped_calls (n : Int) (w : World) : Calls Try.prog 83 #[.int .i64 n] w fun e w' => e = .returned (.int .i64 (cap n)) ∧ w = w' := by
  by_cases h : 501 < n
  · have HC := Aside0.mk (show cap n = 501 from if_pos h)
    go_enter Try.func83, Try.ntmps83
    go_wp2
    go_ret
    exact ⟨by rw [HC.out]; rfl, rfl⟩
  · have HC := Aside0.mk (show cap n = n from if_neg h)
    go_enter Try.func83, Try.ntmps83
    go_wp2
    go_ret
    exact ⟨by rw [HC.out]; rfl, rfl⟩
/-- A value of the interface whose size is n, as the calls see it. -/
structure Sized (v : Value) (n : Int) (T : TypeId) (d : Value) (K : Nat) : Prop where
  val : v = .iface T d
  met : ∀ w, (method 244 T d "loop.example/s0027/impl.size").run Try.prog w = .ok (K, d) w
  ent : ∀ args w, (callFunc K args).run Try.prog w = .ok (.enter K args) w
  call : ∀ w, Calls Try.prog K #[d] w fun e w' => e = .returned (.int .i64 n) ∧ Grew w w'
theorem sized : ∀ x : Nd, ∃ T d K, Sized (nodeV x) (size x) T d K
  | .empty => ⟨_, _, _, rfl, fun _ => by kernel_rfl, enters_of Try.func103 (by kernel_rfl) rfl, size_empty⟩
  | .set m => ⟨_, _, _, rfl, fun _ => by kernel_rfl, enters_of Try.func105 (by kernel_rfl) rfl, size_set m⟩
  | .cat l r n => ⟨_, _, _, by rw [nodeV], fun _ => by kernel_rfl, enters_of Try.func106 (by kernel_rfl) rfl, size_cat _ _ n⟩
  | .alt l r n => ⟨_, _, _, by rw [nodeV], fun _ => by kernel_rfl, enters_of Try.func107 (by kernel_rfl) rfl, size_alt _ _ n⟩
  | .rep x lo hi n => ⟨_, _, _, by rw [nodeV], fun _ => by kernel_rfl, enters_of Try.func108 (by kernel_rfl) rfl, size_rep _ lo hi n⟩
def mkCat (l r : Nd) : Nd := .cat l r (cap (size l + size r))
def mkAlt (l r : Nd) : Nd := .alt l r (cap (size l + size r))
set_option maxRecDepth 100000 in
theorem cat_val (T0 T1 : TypeId) (d0 d1 : Value) (K0 K1 : Nat) (n0 n1 : Int) (h0 : Sized (.iface T0 d0) n0 T0 d0 K0) (h1 : Sized (.iface T1 d1) n1 T1 d1 K1) (w : World) (b0 : 0 ≤ n0 ∧ n0 ≤ 100000) (b1 : 0 ≤ n1 ∧ n1 ≤ 100000) :
    Calls Try.prog 70 #[.iface T0 d0, .iface T1 d1] w fun e w' => Is (.iface 119 (.agg #[.iface T0 d0, .iface T1 d1, .int .i64 (cap (n0 + n1))])) e ∧ Grew w w' := by
  obtain ⟨b00, b01⟩ := b0
  obtain ⟨b10, b11⟩ := b1
  have hm0 := h0.met
  have hm1 := h1.met
  have he0 := h0.ent
  have he1 := h1.ent
  have hc0 := h0.call
  have hc1 := h1.call
  clear h0 h1
  go_enter Try.func70, Try.ntmps70
  go_wp2_with (first | (go_at_fn K0; refine (hc0 _).mono ?_; rintro e w1 ⟨rfl, hb0⟩) | (go_at_fn K1; refine (hc1 _).mono ?_; rintro e w2 ⟨rfl, hb1⟩) | (go_at_call 83; refine (capped_calls _ _).mono ?_; rintro e w' ⟨rfl, rfl⟩))
  go_ret
  exact ⟨rfl, grew_trans hb0 hb1⟩
set_option maxRecDepth 100000 in
theorem alt_val (T0 T1 : TypeId) (d0 d1 : Value) (K0 K1 : Nat) (n0 n1 : Int) (h0 : Sized (.iface T0 d0) n0 T0 d0 K0) (h1 : Sized (.iface T1 d1) n1 T1 d1 K1) (w : World) (b0 : 0 ≤ n0 ∧ n0 ≤ 100000) (b1 : 0 ≤ n1 ∧ n1 ≤ 100000) :
    Calls Try.prog 71 #[.iface T0 d0, .iface T1 d1] w fun e w' => Is (.iface 120 (.agg #[.iface T0 d0, .iface T1 d1, .int .i64 (cap (n0 + n1))])) e ∧ Grew w w' := by
  obtain ⟨b00, b01⟩ := b0
  obtain ⟨b10, b11⟩ := b1
  have hm0 := h0.met
  have hm1 := h1.met
  have he0 := h0.ent
  have he1 := h1.ent
  have hc0 := h0.call
  have hc1 := h1.call
  clear h0 h1
  go_enter Try.func71, Try.ntmps71
  go_wp2_with (first | (go_at_fn K0; refine (hc0 _).mono ?_; rintro e w1 ⟨rfl, hb0⟩) | (go_at_fn K1; refine (hc1 _).mono ?_; rintro e w2 ⟨rfl, hb1⟩) | (go_at_call 83; refine (capped_calls _ _).mono ?_; rintro e w' ⟨rfl, rfl⟩))
  go_ret
  exact ⟨rfl, grew_trans hb0 hb1⟩
theorem cat_calls (l r : Nd) (w : World) (b0 : 0 ≤ size l ∧ size l ≤ 100000) (b1 : 0 ≤ size r ∧ size r ≤ 100000) : Calls Try.prog 70 #[nodeV l, nodeV r] w fun e w' => e = .returned (nodeV (mkCat l r)) ∧ Grew w w' := by
  obtain ⟨T0, d0, K0, h0⟩ := sized l
  obtain ⟨T1, d1, K1, h1⟩ := sized r
  have e0 := h0.val
  have e1 := h1.val
  rw [e0] at h0
  rw [e1] at h1
  have := cat_val T0 T1 d0 d1 K0 K1 (size l) (size r) h0 h1 w b0 b1
  rw [mkCat, nodeV, e0, e1]
  exact this
theorem alt_calls (l r : Nd) (w : World) (b0 : 0 ≤ size l ∧ size l ≤ 100000) (b1 : 0 ≤ size r ∧ size r ≤ 100000) : Calls Try.prog 71 #[nodeV l, nodeV r] w fun e w' => e = .returned (nodeV (mkAlt l r)) ∧ Grew w w' := by
  obtain ⟨T0, d0, K0, h0⟩ := sized l
  obtain ⟨T1, d1, K1, h1⟩ := sized r
  have e0 := h0.val
  have e1 := h1.val
  rw [e0] at h0
  rw [e1] at h1
  have := alt_val T0 T1 d0 d1 K0 K1 (size l) (size r) h0 h1 w b0 b1
  rw [mkAlt, nodeV, e0, e1]
  exact this
end Go.Proofs.Ytnpmkcbbmeekaaa.Node
