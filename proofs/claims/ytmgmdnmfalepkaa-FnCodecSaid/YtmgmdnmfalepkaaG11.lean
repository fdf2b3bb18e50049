/- Parts of the proof (see the row's own text): Ldraw. -/
import Derived.Test.YtmgmdnmfalepkaaG00
import Derived.Test.YtmgmdnmfalepkaaG4
import Derived.Test.YtmgmdnmfalepkaaG7
import Derived.Test.YtmgmdnmfalepkaaG9
namespace Go.Proofs.Ytmgmdnmfalepkaa.L
open Go.RowKit Go.Proofs.YtmgmdnmfalepkaaW.PrintWords Go.Proofs.YtmgmdnmfalepkaaW.PrintLast Go.Proofs.YtmgmdnmfalepkaaW.PrintMore
def IsS168 (w0 W : World) (g : Nat) (f0 : List Int) (f1 : Int) : Prop := ∃ A0 c0, W.heap[g]? = some (.cells #[.slice A0 f0.length c0, .int .i64 f1] 168 (0, 0)) ∧ w0.heap.size ≤ g ∧ Kd.C (Kd.int .u8) w0 A0 f0.length f0
theorem IsS168.grown {w0 W : World} {g : Nat} {f0 : List Int} {f1 : Int} {W1 : World} {row : Option Nat} (h : IsS168 w0 W g f0 f1) (hw : W.grownBy W1 row) (hne : some g ≠ row) : IsS168 w0 W1 g f0 f1 := by
 obtain ⟨A0, c0, hb, hg, hr0⟩ := h
 exact ⟨A0, c0, blk_grown hb hw hne, hg, hr0⟩
theorem IsS168.fresh {w0 W : World} {g : Nat} {f0 : List Int} {f1 : Int} (h : IsS168 w0 W g f0 f1) : ∀ k, W.heap.size ≤ k → k ≠ g := by
 obtain ⟨A0, c0, hb, hg, hr0⟩ := h
 exact Kd.freshB hb
theorem IsS168.kept {w0 W : World} {g : Nat} {f0 : List Int} {f1 : Int} {W1 : World} {S : Nat → Prop} (h : IsS168 w0 W g f0 f1) (hk : Kept W W1 S) (hne : ¬ S g) : IsS168 w0 W1 g f0 f1 := by
 obtain ⟨A0, c0, hb, hg, hr0⟩ := h
 exact ⟨A0, c0, blk_kept hb hk hne, hg, hr0⟩
theorem IsS168.below {w0 W : World} {g : Nat} {f0 : List Int} {f1 : Int} {W1 : World} (h : IsS168 w0 W g f0 f1) (hw : Below W.heap.size W W1) : IsS168 w0 W1 g f0 f1 := h.grown (grown_of_below hw none) zq14
theorem IsS168.alloc {w0 W : World} {g : Nat} {f0 : List Int} {f1 : Int} (h : IsS168 w0 W g f0 f1) (o : Obj) : IsS168 w0 (W.alloc o) g f0 f1 := h.below (below_alloc (Below.refl _ _) o)
theorem IsS168.drewN {w0 W : World} {g : Nat} {f0 : List Int} {f1 : Int} (h : IsS168 w0 W g f0 f1) (m : Nat) : IsS168 w0 (W.drewN m) g f0 f1 := h
theorem IsS168.drew {w0 W : World} {g : Nat} {f0 : List Int} {f1 : Int} (h : IsS168 w0 W g f0 f1) : IsS168 w0 W.drew g f0 f1 := h
theorem IsS168.at_ {w0 W : World} {g : Nat} {f0 : List Int} {f1 : Int} {w' : World} {m : Nat} (hq : W.drewN m = w') (h : IsS168 w0 W g f0 f1) : IsS168 w0 w' g f0 f1 := by subst hq; exact IsS168.drewN h m
theorem IsS168.apart {w0 W : World} {g : Nat} {f0 : List Int} {f1 : Int} {α : Type} {d : Kd α} {e : Nat} {base : Nat} {ok : Nat → Prop} {v : Value} {xs : List α} (h : IsS168 w0 W g f0 f1) (ho : d.R e W base ok v xs) (ht : ∀ q, q ∈ e :: d.E → q ≠ 168) : d.R e W base (fun k => ok k ∧ k ≠ g) v xs := by
 obtain ⟨A0, c0, hb, hg, hr0⟩ := h
 exact Kd.R_types ho hb ht
theorem IsS168.own_ne {w0 W : World} {g : Nat} {f0 : List Int} {f1 : Int} {α : Type} {d : Kd α} {e : Nat} {base : Nat} {ok : Nat → Prop} {v : Value} {xs : List α} (h : IsS168 w0 W g f0 f1) (ho : d.R e W base ok v xs) (ht : e ≠ 168) : some g ≠ v.ownBlock := by
 obtain ⟨A0, c0, hb, hg, hr0⟩ := h
 exact Kd.R_ne ho hb ht
theorem IsS168.apartS {w0 W : World} {g : Nat} {f0 : List Int} {f1 : Int} {α : Type} {d : Kd α} {e : Nat} {base : Nat} {ok : Nat → Prop} {v : Value} {xs : List α} (h : IsS168 w0 W g f0 f1) (ho : d.S e W base ok v xs) (ht : ∀ q, q ∈ e :: d.E → q ≠ 168) : d.S e W base (fun k => ok k ∧ k ≠ g) v xs := by
 obtain ⟨A0, c0, hb, hg, hr0⟩ := h
 exact Kd.S_types ho hb ht
theorem IsS168.own_neS {w0 W : World} {g : Nat} {f0 : List Int} {f1 : Int} {α : Type} {d : Kd α} {e : Nat} {base : Nat} {ok : Nat → Prop} {v : Value} {xs : List α} (h : IsS168 w0 W g f0 f1) (ho : d.S e W base ok v xs) (ht : e ≠ 168) : some g ≠ v.ownBlock := by
 obtain ⟨A0, c0, hb, hg, hr0⟩ := h
 exact Kd.S_ne ho hb ht
theorem IsS168.lt {w0 W : World} {g : Nat} {f0 : List Int} {f1 : Int} (h : IsS168 w0 W g f0 f1) : g < W.heap.size := by
 obtain ⟨A0, c0, hb, hg, hr0⟩ := h
 exact blk_lt hb
theorem IsS168.ge {w0 W : World} {g : Nat} {f0 : List Int} {f1 : Int} (h : IsS168 w0 W g f0 f1) : w0.heap.size ≤ g := by
 obtain ⟨A0, c0, hb, hg, hr0⟩ := h
 exact hg
theorem IsS168.far {w0 W : World} {g : Nat} {f0 : List Int} {f1 : Int} {p : Addr} (h : IsS168 w0 W g f0 f1) (hne : g ≠ p.block) (u : Value) : IsS168 w0 (W.setCell p u) g f0 f1 := by
 obtain ⟨A0, c0, hb, hg, hr0⟩ := h
 exact ⟨A0, c0, blk_far hb hne u, hg, hr0⟩
theorem cellS168_0 {W : World} {g : Nat} {A0 : Option Addr} {c0 : Nat} {f0 : List Int} {f1 : Int} (h : W.heap[g]? = some (.cells #[.slice A0 f0.length c0, .int .i64 f1] 168 (0, 0))) : W.cell? ⟨g, 0, none⟩ = some (.slice A0 f0.length c0) := (blk_cell h 0).trans rfl
theorem cellS168_1 {W : World} {g : Nat} {A0 : Option Addr} {c0 : Nat} {f0 : List Int} {f1 : Int} (h : W.heap[g]? = some (.cells #[.slice A0 f0.length c0, .int .i64 f1] 168 (0, 0))) : W.cell? ⟨g, 1, none⟩ = some (.int .i64 f1) := (blk_cell h 1).trans rfl
theorem IsS168.set_1 {w0 W : World} {g : Nat} {f0 : List Int} {f1 : Int} (h : IsS168 w0 W g f0 f1) (x : Int) : IsS168 w0 (W.setCell ⟨g, 1, none⟩ (.int .i64 x)) g f0 x := by
 obtain ⟨A0, c0, hb, hg, hr0⟩ := h
 exact ⟨A0, c0, by simpa using blk_set hb 1 (.int .i64 x), hg, hr0⟩
theorem IsS168.new (w0 W : World) (A0 : Option Addr) (c0 : Nat) (f0 : List Int) (f1 : Int) (hB : Below w0.heap.size w0 W) (hr0 : Kd.C (Kd.int .u8) w0 A0 f0.length f0) : IsS168 w0 (W.alloc (.cells #[.slice A0 f0.length c0, .int .i64 f1] 168)) W.heap.size f0 f1 := ⟨A0, c0, by simpa using heap_alloc_new W _, hB.size, hr0⟩
attribute [local go_sem] max2_int min2_int max_two min_two max_three min_three max_four min_four
set_option linter.unusedVariables false
set_option linter.unusedSimpArgs false
def spec_l1open.f (l0 : List Int) : Option (List Int × Int) := if (l0.length : Int) > 600 then (if 600 ≤ (l0.length : Int) then (some (l0.take 600, 0)) else (none)) else (if 0 ≤ (l0.length : Int) then (if (l0.length : Int) ≤ (l0.length : Int) then (some (l0.take ((l0.length : Int) : Int).toNat, 0)) else (none)) else (none))
set_option maxHeartbeats 8000000 in
set_option maxRecDepth 100000 in
theorem spec_l1open.calls (A0 : Option Addr) (c0 : Nat) (l0 : List Int) (r1 : List Int) (r2 : Int) (w0 w : World) (hB : Below w0.heap.size w0 w) (hr0 : Kd.C (Kd.int .u8) w0 A0 l0.length l0) (hc0 : l0.length ≤ c0) (h : spec_l1open.f l0 = some (r1, r2)) :
  Calls Try.prog 115 #[.slice A0 l0.length c0] w fun e w' => ∃ g_ : Nat, e = .returned (.pointer (some ⟨g_, 0, none⟩)) ∧ IsS168 w0 w' g_ r1 r2 ∧ Below w0.heap.size w0 w' ∧ Below w.heap.size w w' := by
 have hu168 := Try.underlying168
 have HR0 := zA hr0
 have HC0 := zA hc0
 clear hr0 hc0
 have HBW := zA (Below.refl w.heap.size w)
 have HW0 := zA hB.size
 have HB := zA hB
 clear hB
 have H : (if (l0.length : Int) > 600 then (if 600 ≤ (l0.length : Int) then (some (l0.take 600, 0)) else (none)) else (if 0 ≤ (l0.length : Int) then (if (l0.length : Int) ≤ (l0.length : Int) then (some (l0.take ((l0.length : Int) : Int).toNat, 0)) else (none)) else (none))) = some (r1, r2) := h
 clear h
 by_cases c2 : (l0.length : Int) > 600
 ·rw [if_pos c2] at H
  have c2b0 : decide (600 < (l0.length : Int)) = true := decide_eq_true c2
  have c2b1 : decide (600 < l0.length) = true := decide_eq_true zq3
  clear c2
  by_cases c3 : 600 ≤ (l0.length : Int)
  ·rw [if_pos c3] at H
   have c3b0 := eq_true c3
   have c3b1 : decide (600 ≤ (l0.length : Int)) = true := decide_eq_true c3
   clear c3
   simp only [Option.some.injEq, Prod.mk.injEq] at H
   obtain ⟨rfl, rfl⟩ := H
   obtain ⟨i04, hi04, _, hsz4, _⟩ := info_parts info5
   obtain ⟨hcut4, hA4, hC4⟩ := print_take_of (P := Try.prog) (Value.int .u8) 0 33 5 .i64 Try.underlying33 hi04 hsz4 A0 c0 l0 600 zq3 (of_decide_eq_true zq4) HC0.out
   have HR703 := zA (Kd.C_of_reads (h1 := fun _ => rfl) (hA4 _ (Kd.reads_of_C HR0.out)))
   have HC703 := zA hC4
   clear hA4 hC4 hi04 hsz4
   go_enter Try.func115, Try.ntmps115
   go_wp2_with (first | ((with_reducible refine gate_dst (N := 12) rfl ?_); refine box_event ?hg (N := 12) ?hd (cs := #[.slice A0 (l0.take 600).length c0, .int .i64 0]) (t := 168) ?hr ?_; (case hd => rfl); (case hg => rfl); (case hr => first | (go_simp; done) | (go_simp; rfl)); intro gb704 hg w5 hbox hb; have n0_ := zA (below_step HBW.out hb); have n1_ := zA (below_step zq0 hb); have n2_ := zA (hbox); have n3_ := zA ((by rw [hg]; exact (below_size zq30) : w.heap.size ≤ gb704)); have n4_ := zA ((Nat.le_trans HW0.out (by rw [hg]; exact (below_size zq30) : w.heap.size ≤ gb704) : w0.heap.size ≤ gb704)); clear HBW; clear HB; have HBW := n0_; have HB := n1_; have BK704 := n2_; have GW704 := n3_; have GE704 := n4_; clear n0_ n1_ n2_ n3_ n4_; clear hb hbox hg))
   go_ret
   exact ⟨_, rfl, (show IsS168 w0 _ gb704 (l0.take 600) 0 from ⟨_, _, by (with_reducible repeat (first | refine blk_drewN ?_ _ | refine blk_drew ?_ | refine blk_alloc ?_ _)); exact BK704.out, GE704.out, HR703.out⟩), by repeat (first | (with_reducible first | exact HB.out | apply below_alloc | apply pw_below_drewN | apply below_drew1 | refine below_set ?_ GE704.out) | exact HB.out), by repeat (first | (with_reducible first | exact HBW.out | apply below_alloc | apply pw_below_drewN | apply below_drew1 | refine below_set ?_ GW704.out) | exact HBW.out)⟩
  ·rw [if_neg c3] at H
   exact absurd H zq14
 ·rw [if_neg c2] at H
  have c2b0 : decide (600 < (l0.length : Int)) = false := decide_eq_false c2
  have c2b1 : decide (600 < l0.length) = false := decide_eq_false zq3
  clear c2
  by_cases c6 : 0 ≤ (l0.length : Int)
  ·rw [if_pos c6] at H
   have c6b0 := eq_true c6
   have c6b1 : decide (0 ≤ (l0.length : Int)) = true := decide_eq_true c6
   clear c6
   by_cases c7 : (l0.length : Int) ≤ (l0.length : Int)
   ·rw [if_pos c7] at H
    have c7b0 := eq_true c7
    have c7b1 : decide ((l0.length : Int) ≤ (l0.length : Int)) = true := decide_eq_true c7
    clear c7
    simp only [Option.some.injEq, Prod.mk.injEq] at H
    obtain ⟨rfl, rfl⟩ := H
    obtain ⟨i08, hi08, _, hsz8, _⟩ := info_parts info5
    obtain ⟨hcut8, hA8, hC8⟩ := print_take_of (P := Try.prog) (Value.int .u8) 0 33 5 .i64 Try.underlying33 hi08 hsz8 A0 c0 l0 (l0.length : Int) (of_decide_eq_true zq4) (of_decide_eq_true zq4) HC0.out
    have HR705 := zA (Kd.C_of_reads (h1 := fun _ => rfl) (hA8 _ (Kd.reads_of_C HR0.out)))
    have HC705 := zA hC8
    clear hA8 hC8 hi08 hsz8
    go_enter Try.func115, Try.ntmps115
    go_wp2_with (first | ((with_reducible refine gate_dst (N := 12) rfl ?_); refine box_event ?hg (N := 12) ?hd (cs := #[.slice A0 (l0.take ((l0.length : Int) : Int).toNat).length c0, .int .i64 0]) (t := 168) ?hr ?_; (case hd => rfl); (case hg => rfl); (case hr => first | (go_simp; done) | (go_simp; rfl)); intro gb706 hg w9 hbox hb; have n0_ := zA (below_step HBW.out hb); have n1_ := zA (below_step zq0 hb); have n2_ := zA (hbox); have n3_ := zA ((by rw [hg]; exact (below_size zq30) : w.heap.size ≤ gb706)); have n4_ := zA ((Nat.le_trans HW0.out (by rw [hg]; exact (below_size zq30) : w.heap.size ≤ gb706) : w0.heap.size ≤ gb706)); clear HBW; clear HB; have HBW := n0_; have HB := n1_; have BK706 := n2_; have GW706 := n3_; have GE706 := n4_; clear n0_ n1_ n2_ n3_ n4_; clear hb hbox hg))
    go_ret
    exact ⟨_, rfl, (show IsS168 w0 _ gb706 (l0.take ((l0.length : Int) : Int).toNat) 0 from ⟨_, _, by (with_reducible repeat (first | refine blk_drewN ?_ _ | refine blk_drew ?_ | refine blk_alloc ?_ _)); exact BK706.out, GE706.out, HR705.out⟩), by repeat (first | (with_reducible first | exact HB.out | apply below_alloc | apply pw_below_drewN | apply below_drew1 | refine below_set ?_ GE706.out) | exact HB.out), by repeat (first | (with_reducible first | exact HBW.out | apply below_alloc | apply pw_below_drewN | apply below_drew1 | refine below_set ?_ GW706.out) | exact HBW.out)⟩
   ·rw [if_neg c7] at H
    exact absurd H zq14
  ·rw [if_neg c6] at H
   exact absurd H zq14
def spec_l1rd_next.f (s0_0 : List Int) (s0_1 : Int) : Option (Int × Int) := if s0_1 ≥ (s0_0.length : Int) then (some (0, s0_1)) else (if 0 ≤ s0_1 then (if s0_1 < (s0_0.length : Int) then (some (wrap64 (rd s0_0 s0_1), wrap64 (s0_1 + 1))) else (none)) else (none))
set_option maxHeartbeats 8000000 in
set_option maxRecDepth 100000 in
theorem spec_l1rd_next.calls (g : Nat) (s0_0 : List Int) (s0_1 : Int) (r1 : Int) (r2 : Int) (w0 w : World) (hI : IsS168 w0 w g s0_0 s0_1) (hB : Below w0.heap.size w0 w) (h : spec_l1rd_next.f s0_0 s0_1 = some (r1, r2)) :
  Calls Try.prog 116 #[.pointer (some ⟨g, 0, none⟩)] w fun e w' => e = .returned (.int .i64 r1) ∧ IsS168 w0 w' g s0_0 r2 ∧ Below w0.heap.size w0 w' ∧ KeepBut w w' g none := by
 have HI0 := zA hI
 have HK := zA (KeepBut.refl w g none)
 have HL := zA hB.size
 clear hI
 have HW0 := zA hB.size
 have HB := zA hB
 clear hB
 have H : (if s0_1 ≥ (s0_0.length : Int) then (some (0, s0_1)) else (if 0 ≤ s0_1 then (if s0_1 < (s0_0.length : Int) then (some (wrap64 (rd s0_0 s0_1), wrap64 (s0_1 + 1))) else (none)) else (none))) = some (r1, r2) := h
 clear h
 by_cases c2 : s0_1 ≥ (s0_0.length : Int)
 ·rw [if_pos c2] at H
  have c2b0 : decide ((s0_0.length : Int) ≤ s0_1) = true := decide_eq_true c2
  clear c2
  simp only [Option.some.injEq, Prod.mk.injEq] at H
  obtain ⟨rfl, rfl⟩ := H
  obtain ⟨ASz3_0, cSz3_0, HGz3, hgz3, HSz3_0⟩ := HI0.out
  have hcz3_0 := cellS168_0 HGz3
  have hcz3_1 := cellS168_1 HGz3
  have hfz3_1 := blk_frozen HGz3 1
  clear HGz3 hgz3
  go_enter Try.func116, Try.ntmps116
  go_wp2
  repeat (go_quiet (fail); try go_wp2)
  go_ret
  exact ⟨zq9, zq5, by repeat (first | (with_reducible first | exact HB.out | apply below_alloc | apply pw_below_drewN | apply below_drew1 | refine below_set ?_ (IsS168.ge HI0.out)) | exact HB.out), zq1⟩
 ·rw [if_neg c2] at H
  have c2b0 : decide ((s0_0.length : Int) ≤ s0_1) = false := decide_eq_false c2
  clear c2
  by_cases c4 : 0 ≤ s0_1
  ·rw [if_pos c4] at H
   have c4b0 : decide (0 ≤ s0_1) = true := decide_eq_true c4
   clear c4
   by_cases c5 : s0_1 < (s0_0.length : Int)
   ·rw [if_pos c5] at H
    have c5b0 : decide (s0_1 < (s0_0.length : Int)) = true := decide_eq_true c5
    clear c5
    simp only [Option.some.injEq, Prod.mk.injEq] at H
    obtain ⟨rfl, rfl⟩ := H
    obtain ⟨ASz6_0, cSz6_0, HGz6, hgz6, HSz6_0⟩ := HI0.out
    have hcz6_0 := cellS168_0 HGz6
    have hcz6_1 := cellS168_1 HGz6
    have hfz6_1 := blk_frozen HGz6 1
    clear HGz6 hgz6
    have p707 : 0 ≤ (s0_1 : Int) := of_decide_eq_true zq4
    have q707 : s0_1 < (s0_0.length : Int) := of_decide_eq_true zq4
    obtain ⟨ad707, e707, hx707_0⟩ := Kd.at_int HSz6_0 s0_1 p707 q707
    cases e707
    replace hx707_0 := pw_cell_below HB.out hx707_0
    replace p707 := eq_true p707
    replace q707 := eq_true q707
    go_enter Try.func116, Try.ntmps116
    go_wp2
    repeat (go_quiet (fail); try go_wp2)
    go_ret
    exact ⟨zq9, zq5, by repeat (first | (with_reducible first | exact HB.out | apply below_alloc | apply pw_below_drewN | apply below_drew1 | refine below_set ?_ (IsS168.ge HI0.out)) | exact HB.out), zq1⟩
   ·rw [if_neg c5] at H
    exact absurd H zq14
  ·rw [if_neg c4] at H
   exact absurd H zq14
def spec_l4reseal.f (k : Nat) (l0 : List Int) : Option (List Int) := (spec_l4checksum.f k l0).bind fun t708 => (if l0.length + t708.length < 140737488355328 then (some (l0 ++ t708)) else (none))
theorem spec_l4reseal.mono : ∀ a0 k, LeO (spec_l4reseal.f k a0) (spec_l4reseal.f (k + 1) a0) := by
 intro a0 k
 unfold spec_l4reseal.f
 repeat' first
   | (with_reducible exact spec_l4checksum.mono _ _)
   | (with_reducible exact LeO.refl _)
   | (with_reducible exact LeO.none _)
   | (with_reducible refine LeO.ite ?_ ?_)
   | (with_reducible refine LeO.bind ?_ (fun _ => ?_))
   | exact spec_l4checksum.mono _ _
   | exact LeO.none _
   | refine LeO.ite ?_ ?_
   | refine LeO.bind ?_ (fun _ => ?_)
set_option maxHeartbeats 8000000 in
set_option maxRecDepth 100000 in
theorem spec_l4reseal.calls (k : Nat) (P0_ : Nat → Prop) (u9000_ : Value) (l0 : List Int) (r : List Int) (w0 w : World) (hB : Below w0.heap.size w0 w) (ho0 : Kd.R (Kd.int .u8) 5 w w0.heap.size P0_ u9000_ l0) (h : spec_l4reseal.f k l0 = some r) :
  Calls Try.prog 117 #[u9000_] w fun e w' => ∃ v0_ : Value, e = .returned (v0_) ∧ Kd.R (Kd.int .u8) 5 w' w0.heap.size (fun k_ => (P0_ k_ ∨ w.heap.size ≤ k_)) v0_ r ∧ Below w0.heap.size w0 w' ∧ Kept w w' (fun k_ => P0_ k_) := by
 have HO0 := zA (show Kd.R (Kd.int .u8) 5 w w0.heap.size (fun k_ => (P0_ k_ ∨ w.heap.size ≤ k_)) u9000_ l0 from Kd.R_mono ho0 (fun k_ hk => (.inl hk)))
 have HK := zA (Kept.refl w (fun k_ => P0_ k_))
 have HW0 := zA hB.size
 have HB := zA hB
 clear hB
 have H : ((spec_l4checksum.f k l0).bind fun t708 => (if l0.length + t708.length < 140737488355328 then (some (l0 ++ t708)) else (none))) = some r := h
 clear h
 replace H := Option.bind_eq_some_iff.mp H
 obtain ⟨t708, A20, H⟩ := H
 replace H : (if l0.length + t708.length < 140737488355328 then (some (l0 ++ t708)) else (none)) = some r := H
 have A2 := zA A20
 clear A20
 by_cases c3 : l0.length + t708.length < 140737488355328
 ·rw [if_pos c3] at H
  have LMc3 := zA c3
  clear c3
  obtain ⟨y711, hy711⟩ : ∃ y_ : List Int, y_ = (l0 ++ t708) := ⟨_, rfl⟩
  replace H : (some y711) = some r := by first | (rw [hy711]; with_reducible exact H) | (have H2_ := (Option.bind_some _ _).symm.trans H; rw [hy711]; with_reducible exact H2_) | (have H2_ := (Option.bind_some _ _).symm.trans H; with_reducible exact H2_) | with_reducible exact H | (rw [hy711]; exact H) | exact H
  have Ny711 := zA hy711
  clear hy711
  obtain rfl := Option.some.inj H
  obtain ⟨Ao4, co4, eo4⟩ := Kd.R_slice HO0.out
  subst eo4
  go_enter Try.func117, Try.ntmps117
  go_wp2_with (first | ((with_reducible refine gate_callee (f := 141) rfl ?_); refine goesL_ (some 5) rfl rfl Try.func141 zq12 rfl #[.slice Ao4 l0.length co4] rfl zq2 ?_; (with_reducible refine (spec_l4checksum.calls k _ _ l0 t708 _ ?side1 ?side2 A2.out).mono ?_); (case side1 => repeat (first | exact (Kd.R_reads' HO0.out).2.2 | (with_reducible refine Kd.C_alloc ?_ _) | (with_reducible refine Kd.C_drewN ?_ _) | (with_reducible refine Kd.C_drew ?_))); (case side2 => exact (Kd.R_reads' HO0.out).2.1); rintro e w5 ⟨v709, rfl, ho0, hb⟩; refine ⟨_, rfl, ?_⟩; have n0_ := zA (Kd.R_elder' zq51 (Kd.R_base ho0) hb); have n1_ := zA (Kd.R_lower (Kd.R_new' (Kd.R_newM (M := fun k_ => (P0_ k_ ∨ w.heap.size ≤ k_)) ho0 (by first | exact HK.out.1 | exact (show Kept w _ (fun k_ => P0_ k_) from by repeat (exact HK.out)).1) (fun k_ h_ => .inr h_)) (Kd.R_lt zq51)) (below_size zq0)); have n2_ := zA (Kept.below (S := (fun k_ => P0_ k_)) zq41 hb); have n3_ := zA (below_step zq0 hb); clear HO0; clear HK; clear HB; have HO0 := n0_; have HO710 := n1_; have HK := n2_; have HB := n3_; clear n0_ n1_ n2_ n3_; (try clear hb); (try clear hb2); (try clear hk); (try clear hi); (try clear ho0); obtain ⟨Ao7, co7, eo7⟩ := Kd.R_slice HO710.out; subst eo7) | ((with_reducible refine gate_builtin (b := .append) (xs := #[.tmp 3, .tmp 5]) rfl ?_); at_builtin; refine Kd.R_append_rows (Kd.int .u8) (w0 := w0) w0.heap.size rfl (.tmp 3) (.tmp 5) 33 5 (.int .u8 0) 1 rfl Try.underlying33 info5 rfl zq13 zq3 (.slice Ao4 l0.length co4) l0 t708 _ _ _ (fun k_ => (P0_ k_ ∨ w.heap.size ≤ k_) ∧ some k_ ≠ (.slice Ao7 t708.length co7 : Value).ownBlock) (fun _ => False) rfl rfl ?aO ?aR (fun _ _ h => h) (fun _ h => h.elim) ?aF ?aB ?aS ?aL ?_; (case aR => repeat (first | exact (Kd.R_reads' HO710.out).2.2 | (with_reducible refine Kd.C_alloc ?_ _) | (with_reducible refine Kd.C_drewN ?_ _) | (with_reducible refine Kd.C_drew ?_))); (case aB => exact zq0); (case aF => exact (fun k_ hk => ⟨(.inr (Nat.le_trans (by first | exact HK.out.1 | exact (show Kept w _ (fun k_ => P0_ k_) from by repeat (exact HK.out)).1) hk)), Kd.fresh' (Kd.R_lt (by (with_reducible repeat (first | apply Kd.R_alloc | apply Kd.R_drewN | apply Kd.R_drew)); exact HO710.out)) k_ hk⟩)); (case aO => exact zq51); (case aS => exact (below_size zq0)); (case aL => have := LMc3.out; omega); intro v712 w6 ho hb hg hat; rw [← Ny711.out] at ho; have n0_ := zA (Kd.R_after (ok := (fun k_ => (P0_ k_ ∨ w.heap.size ≤ k_))) (by (with_reducible repeat (first | apply Kd.R_alloc | apply Kd.R_drewN | apply Kd.R_drew)); exact Kd.R_mono HO710.out (fun _ hk => ⟨hk.1.1, hk.2⟩)) hg hat); have n1_ := zA (hb); have n2_ := zA (Kept.of_grown (S := (fun k_ => P0_ k_)) hg zq41 (fun k_ e_ => (HO0.out.1 k_ e_).1)); have n3_ := zA (ho); clear HO710; clear HB; clear HK; clear HO0; have HO710 := n0_; have HB := n1_; have HK := n2_; have HO713 := n3_; clear n0_ n1_ n2_ n3_; clear ho hb hg hat))
  go_ret
  exact ⟨_, zq9, by (with_reducible repeat (first | apply Kd.R_alloc | apply Kd.R_drewN | apply Kd.R_drew)); exact Kd.R_mono HO713.out (fun _ hk => hk.1), zq0, zq41⟩
 ·rw [if_neg c3] at H
  exact absurd H zq14
def spec_l1drawByte.f (s0_0 : List Int) (s0_1 : Int) : Option (Int × Int) := (spec_l1rd_next.f s0_0 s0_1).bind fun bt714 => (if bt714.1 < 200 then (some (wrap64 (97 + (Int.tmod bt714.1 3)), bt714.2)) else (if bt714.1 < 215 then (some (wrap64 (48 + (Int.tmod bt714.1 3)), bt714.2)) else (if 0 ≤ (Int.tmod bt714.1 25) then (if (Int.tmod bt714.1 25) < 25 then (some (wrap64 (bt (⟨#[92, 46, 91, 93, 40, 41, 124, 42, 43, 63, 123, 125, 94, 36, 45, 10, 9, 13, 32, 126, 0, 127, 128, 255, 33]⟩ : ByteArray) (Int.tmod bt714.1 25)), bt714.2)) else (none)) else (none))))
set_option maxHeartbeats 8000000 in
set_option maxRecDepth 100000 in
theorem spec_l1drawByte.calls (g : Nat) (s0_0 : List Int) (s0_1 : Int) (r1 : Int) (r2 : Int) (w0 w : World) (hI : IsS168 w0 w g s0_0 s0_1) (hB : Below w0.heap.size w0 w) (h : spec_l1drawByte.f s0_0 s0_1 = some (r1, r2)) :
  Calls Try.prog 182 #[.pointer (some ⟨g, 0, none⟩)] w fun e w' => e = .returned (.int .i64 r1) ∧ IsS168 w0 w' g s0_0 r2 ∧ Below w0.heap.size w0 w' ∧ KeepBut w w' g none := by
 have HI0 := zA hI
 have HK := zA (KeepBut.refl w g none)
 have HL := zA hB.size
 clear hI
 have HW0 := zA hB.size
 have HB := zA hB
 clear hB
 have H : ((spec_l1rd_next.f s0_0 s0_1).bind fun bt714 => (if bt714.1 < 200 then (some (wrap64 (97 + (Int.tmod bt714.1 3)), bt714.2)) else (if bt714.1 < 215 then (some (wrap64 (48 + (Int.tmod bt714.1 3)), bt714.2)) else (if 0 ≤ (Int.tmod bt714.1 25) then (if (Int.tmod bt714.1 25) < 25 then (some (wrap64 (bt (⟨#[92, 46, 91, 93, 40, 41, 124, 42, 43, 63, 123, 125, 94, 36, 45, 10, 9, 13, 32, 126, 0, 127, 128, 255, 33]⟩ : ByteArray) (Int.tmod bt714.1 25)), bt714.2)) else (none)) else (none))))) = some (r1, r2) := h
 clear h
 replace H := Option.bind_eq_some_iff.mp H
 obtain ⟨⟨t714, t715⟩, A20, H⟩ := H
 replace H : (if t714 < 200 then (some (wrap64 (97 + (Int.tmod t714 3)), t715)) else (if t714 < 215 then (some (wrap64 (48 + (Int.tmod t714 3)), t715)) else (if 0 ≤ (Int.tmod t714 25) then (if (Int.tmod t714 25) < 25 then (some (wrap64 (bt (⟨#[92, 46, 91, 93, 40, 41, 124, 42, 43, 63, 123, 125, 94, 36, 45, 10, 9, 13, 32, 126, 0, 127, 128, 255, 33]⟩ : ByteArray) (Int.tmod t714 25)), t715)) else (none)) else (none)))) = some (r1, r2) := H
 have A2 := zA A20
 clear A20
 by_cases c3 : t714 < 200
 ·rw [if_pos c3] at H
  have c3b0 : decide (t714 < 200) = true := decide_eq_true c3
  clear c3
  simp only [Option.some.injEq, Prod.mk.injEq] at H
  obtain ⟨rfl, rfl⟩ := H
  go_enter Try.func182, Try.ntmps182
  go_wp2_with (first | ((with_reducible refine gate_callee (f := 116) rfl ?_); refine goesL_ (some 6) rfl rfl Try.func116 zq12 rfl #[.pointer (some ⟨g, 0, none⟩)] rfl zq2 ?_; (with_reducible refine (spec_l1rd_next.calls g s0_0 s0_1 t714 t715 w0 _ ?side1 ?side2 A2.out).mono ?_); (case side1 => repeat (first | (with_reducible first | exact HI0.out | apply IsS168.alloc | apply IsS168.drewN | apply IsS168.drew | apply IsS168.set_1) | exact HI0.out)); (case side2 => repeat (first | (with_reducible first | exact HB.out | apply below_alloc | apply pw_below_drewN | apply below_drew1 | refine below_set ?_ (IsS168.ge HI0.out)) | exact HB.out)); rintro e w4 ⟨rfl, hi, hb, hk⟩; refine ⟨_, rfl, ?_⟩; have n0_ := zA (KeepBut.trans zq1 hk (.inl rfl)); have n1_ := zA (hb); have n2_ := zA (hi); clear HK; clear HB; clear HI0; have HK := n0_; have HB := n1_; have HI0 := n2_; clear n0_ n1_ n2_; (try clear hb); (try clear hb2); (try clear hk); (try clear hi)))
  go_ret
  exact ⟨zq9, zq5, by repeat (first | (with_reducible first | exact HB.out | apply below_alloc | apply pw_below_drewN | apply below_drew1 | refine below_set ?_ (IsS168.ge HI0.out)) | exact HB.out), zq1⟩
 ·rw [if_neg c3] at H
  have c3b0 : decide (t714 < 200) = false := decide_eq_false c3
  clear c3
  by_cases c5 : t714 < 215
  ·rw [if_pos c5] at H
   have c5b0 : decide (t714 < 215) = true := decide_eq_true c5
   clear c5
   simp only [Option.some.injEq, Prod.mk.injEq] at H
   obtain ⟨rfl, rfl⟩ := H
   go_enter Try.func182, Try.ntmps182
   go_wp2_with (first | ((with_reducible refine gate_callee (f := 116) rfl ?_); refine goesL_ (some 6) rfl rfl Try.func116 zq12 rfl #[.pointer (some ⟨g, 0, none⟩)] rfl zq2 ?_; (with_reducible refine (spec_l1rd_next.calls g s0_0 s0_1 t714 t715 w0 _ ?side1 ?side2 A2.out).mono ?_); (case side1 => repeat (first | (with_reducible first | exact HI0.out | apply IsS168.alloc | apply IsS168.drewN | apply IsS168.drew | apply IsS168.set_1) | exact HI0.out)); (case side2 => repeat (first | (with_reducible first | exact HB.out | apply below_alloc | apply pw_below_drewN | apply below_drew1 | refine below_set ?_ (IsS168.ge HI0.out)) | exact HB.out)); rintro e w6 ⟨rfl, hi, hb, hk⟩; refine ⟨_, rfl, ?_⟩; have n0_ := zA (KeepBut.trans zq1 hk (.inl rfl)); have n1_ := zA (hb); have n2_ := zA (hi); clear HK; clear HB; clear HI0; have HK := n0_; have HB := n1_; have HI0 := n2_; clear n0_ n1_ n2_; (try clear hb); (try clear hb2); (try clear hk); (try clear hi)))
   go_ret
   exact ⟨zq9, zq5, by repeat (first | (with_reducible first | exact HB.out | apply below_alloc | apply pw_below_drewN | apply below_drew1 | refine below_set ?_ (IsS168.ge HI0.out)) | exact HB.out), zq1⟩
  ·rw [if_neg c5] at H
   have c5b0 : decide (t714 < 215) = false := decide_eq_false c5
   clear c5
   obtain ⟨ji7, hji7⟩ : ∃ j_ : Int, (Int.tmod t714 25) = j_ := ⟨_, rfl⟩
   replace H : (if 0 ≤ (ji7) then (if (ji7) < 25 then (some (wrap64 (bt (⟨#[92, 46, 91, 93, 40, 41, 124, 42, 43, 63, 123, 125, 94, 36, 45, 10, 9, 13, 32, 126, 0, 127, 128, 255, 33]⟩ : ByteArray) (ji7)), t715)) else (none)) else (none)) = some (r1, r2) := by first | (rw [hji7] at H; exact H) | (simp only [hji7] at H ⊢; exact H)
   (try rw [hji7] at A2)
   by_cases c8 : 0 ≤ (ji7)
   ·rw [if_pos c8] at H
    have c8b0 : decide (0 ≤ (ji7)) = true := decide_eq_true c8
    clear c8
    by_cases c9 : (ji7) < 25
    ·rw [if_pos c9] at H
     have c9b0 : decide ((ji7) < 25) = true := decide_eq_true c9
     clear c9
     simp only [Option.some.injEq, Prod.mk.injEq] at H
     obtain ⟨rfl, rfl⟩ := H
     go_enter Try.func182, Try.ntmps182
     go_wp2_with (first | ((with_reducible refine gate_callee (f := 116) rfl ?_); refine goesL_ (some 6) rfl rfl Try.func116 zq12 rfl #[.pointer (some ⟨g, 0, none⟩)] rfl zq2 ?_; (with_reducible refine (spec_l1rd_next.calls g s0_0 s0_1 t714 t715 w0 _ ?side1 ?side2 A2.out).mono ?_); (case side1 => repeat (first | (with_reducible first | exact HI0.out | apply IsS168.alloc | apply IsS168.drewN | apply IsS168.drew | apply IsS168.set_1) | exact HI0.out)); (case side2 => repeat (first | (with_reducible first | exact HB.out | apply below_alloc | apply pw_below_drewN | apply below_drew1 | refine below_set ?_ (IsS168.ge HI0.out)) | exact HB.out)); rintro e w11 ⟨rfl, hi, hb, hk⟩; refine ⟨_, rfl, ?_⟩; have n0_ := zA (KeepBut.trans zq1 hk (.inl rfl)); have n1_ := zA (hb); have n2_ := zA (hi); clear HK; clear HB; clear HI0; have HK := n0_; have HB := n1_; have HI0 := n2_; clear n0_ n1_ n2_; (try clear hb); (try clear hb2); (try clear hk); (try clear hi); have p10 : 0 ≤ ((ji7) : Int) := of_decide_eq_true zq4; have q10 : (ji7) < (25 : Int) := of_decide_eq_true zq4; have hx10 := bt_at (⟨#[92, 46, 91, 93, 40, 41, 124, 42, 43, 63, 123, 125, 94, 36, 45, 10, 9, 13, 32, 126, 0, 127, 128, 255, 33]⟩ : ByteArray) (ji7); replace p10 := eq_true p10; replace q10 := eq_true q10))
     go_ret
     exact ⟨zq45, zq5, by repeat (first | (with_reducible first | exact HB.out | apply below_alloc | apply pw_below_drewN | apply below_drew1 | refine below_set ?_ (IsS168.ge HI0.out)) | exact HB.out), zq1⟩
    ·rw [if_neg c9] at H
     exact absurd H zq14
   ·rw [if_neg c8] at H
    exact absurd H zq14
def spec_l4word.f (a0 : Int) : Option (ByteArray) := if (Int.tmod a0 10) = 0 then (some (⟨#[101, 114, 114, 111, 114]⟩ : ByteArray)) else (if (Int.tmod a0 10) = 1 then (some (⟨#[119, 97, 114, 110]⟩ : ByteArray)) else (if (Int.tmod a0 10) = 2 then (some (⟨#[100, 105, 115, 107, 32, 102, 117, 108, 108]⟩ : ByteArray)) else (if (Int.tmod a0 10) = 3 then (some (⟨#[97, 98, 99]⟩ : ByteArray)) else (if (Int.tmod a0 10) = 4 then (some (⟨#[99, 97, 98, 97, 98]⟩ : ByteArray)) else (if (Int.tmod a0 10) = 5 then (some (⟨#[114, 101, 97, 100, 32, 49, 55]⟩ : ByteArray)) else (if (Int.tmod a0 10) = 6 then (some (⟨#[105, 111]⟩ : ByteArray)) else (if (Int.tmod a0 10) = 7 then (some (⟨#[114, 101, 114, 114, 111, 114]⟩ : ByteArray)) else (if (Int.tmod a0 10) = 8 then (some (⟨#[98, 99, 97, 98, 99]⟩ : ByteArray)) else (some (⟨#[97, 46, 99]⟩ : ByteArray))))))))))
set_option maxHeartbeats 8000000 in
set_option maxRecDepth 100000 in
theorem spec_l4word.calls (a0 : Int) (r : ByteArray) (w : World) (h : spec_l4word.f a0 = some r) :
  Calls Try.prog 183 #[.int .i64 a0] w fun e w' => e = .returned (.string r) ∧ Drawn0 w w' := by
 have H : (if (Int.tmod a0 10) = 0 then (some (⟨#[101, 114, 114, 111, 114]⟩ : ByteArray)) else (if (Int.tmod a0 10) = 1 then (some (⟨#[119, 97, 114, 110]⟩ : ByteArray)) else (if (Int.tmod a0 10) = 2 then (some (⟨#[100, 105, 115, 107, 32, 102, 117, 108, 108]⟩ : ByteArray)) else (if (Int.tmod a0 10) = 3 then (some (⟨#[97, 98, 99]⟩ : ByteArray)) else (if (Int.tmod a0 10) = 4 then (some (⟨#[99, 97, 98, 97, 98]⟩ : ByteArray)) else (if (Int.tmod a0 10) = 5 then (some (⟨#[114, 101, 97, 100, 32, 49, 55]⟩ : ByteArray)) else (if (Int.tmod a0 10) = 6 then (some (⟨#[105, 111]⟩ : ByteArray)) else (if (Int.tmod a0 10) = 7 then (some (⟨#[114, 101, 114, 114, 111, 114]⟩ : ByteArray)) else (if (Int.tmod a0 10) = 8 then (some (⟨#[98, 99, 97, 98, 99]⟩ : ByteArray)) else (some (⟨#[97, 46, 99]⟩ : ByteArray))))))))))) = some r := h
 clear h
 by_cases c2 : (Int.tmod a0 10) = 0
 ·rw [if_pos c2] at H
  have c2b0 : ((Int.tmod a0 10) == 0) = true := beq_iff_eq.mpr c2
  have c2b1 : ((Int.tmod a0 10) != 0) = false := bne_eq_false_iff_eq.mpr c2
  clear c2
  obtain rfl := Option.some.inj H
  go_enter Try.func183, Try.ntmps183
  go_wp2
  go_ret
  exact ⟨zq6, zq10⟩
 ·rw [if_neg c2] at H
  have c2b0 : ((Int.tmod a0 10) == 0) = false := beq_eq_false_iff_ne.mpr c2
  have c2b1 : ((Int.tmod a0 10) != 0) = true := bne_iff_ne.mpr c2
  by_cases c3 : (Int.tmod a0 10) = 1
  ·rw [if_pos c3] at H
   have c3b0 : ((Int.tmod a0 10) == 1) = true := beq_iff_eq.mpr c3
   have c3b1 : ((Int.tmod a0 10) != 1) = false := bne_eq_false_iff_eq.mpr c3
   clear c3
   obtain rfl := Option.some.inj H
   go_enter Try.func183, Try.ntmps183
   go_wp2
   go_ret
   exact ⟨zq6, zq10⟩
  ·rw [if_neg c3] at H
   have c3b0 : ((Int.tmod a0 10) == 1) = false := beq_eq_false_iff_ne.mpr c3
   have c3b1 : ((Int.tmod a0 10) != 1) = true := bne_iff_ne.mpr c3
   by_cases c4 : (Int.tmod a0 10) = 2
   ·rw [if_pos c4] at H
    have c4b0 : ((Int.tmod a0 10) == 2) = true := beq_iff_eq.mpr c4
    have c4b1 : ((Int.tmod a0 10) != 2) = false := bne_eq_false_iff_eq.mpr c4
    clear c4
    obtain rfl := Option.some.inj H
    go_enter Try.func183, Try.ntmps183
    go_wp2
    go_ret
    exact ⟨zq6, zq10⟩
   ·rw [if_neg c4] at H
    have c4b0 : ((Int.tmod a0 10) == 2) = false := beq_eq_false_iff_ne.mpr c4
    have c4b1 : ((Int.tmod a0 10) != 2) = true := bne_iff_ne.mpr c4
    by_cases c5 : (Int.tmod a0 10) = 3
    ·rw [if_pos c5] at H
     have c5b0 : ((Int.tmod a0 10) == 3) = true := beq_iff_eq.mpr c5
     have c5b1 : ((Int.tmod a0 10) != 3) = false := bne_eq_false_iff_eq.mpr c5
     clear c5
     obtain rfl := Option.some.inj H
     go_enter Try.func183, Try.ntmps183
     go_wp2
     go_ret
     exact ⟨zq6, zq10⟩
    ·rw [if_neg c5] at H
     have c5b0 : ((Int.tmod a0 10) == 3) = false := beq_eq_false_iff_ne.mpr c5
     have c5b1 : ((Int.tmod a0 10) != 3) = true := bne_iff_ne.mpr c5
     by_cases c6 : (Int.tmod a0 10) = 4
     ·rw [if_pos c6] at H
      have c6b0 : ((Int.tmod a0 10) == 4) = true := beq_iff_eq.mpr c6
      have c6b1 : ((Int.tmod a0 10) != 4) = false := bne_eq_false_iff_eq.mpr c6
      clear c6
      obtain rfl := Option.some.inj H
      go_enter Try.func183, Try.ntmps183
      go_wp2
      go_ret
      exact ⟨zq6, zq10⟩
     ·rw [if_neg c6] at H
      have c6b0 : ((Int.tmod a0 10) == 4) = false := beq_eq_false_iff_ne.mpr c6
      have c6b1 : ((Int.tmod a0 10) != 4) = true := bne_iff_ne.mpr c6
      by_cases c7 : (Int.tmod a0 10) = 5
      ·rw [if_pos c7] at H
       have c7b0 : ((Int.tmod a0 10) == 5) = true := beq_iff_eq.mpr c7
       have c7b1 : ((Int.tmod a0 10) != 5) = false := bne_eq_false_iff_eq.mpr c7
       clear c7
       obtain rfl := Option.some.inj H
       go_enter Try.func183, Try.ntmps183
       go_wp2
       go_ret
       exact ⟨zq6, zq10⟩
      ·rw [if_neg c7] at H
       have c7b0 : ((Int.tmod a0 10) == 5) = false := beq_eq_false_iff_ne.mpr c7
       have c7b1 : ((Int.tmod a0 10) != 5) = true := bne_iff_ne.mpr c7
       by_cases c8 : (Int.tmod a0 10) = 6
       ·rw [if_pos c8] at H
        have c8b0 : ((Int.tmod a0 10) == 6) = true := beq_iff_eq.mpr c8
        have c8b1 : ((Int.tmod a0 10) != 6) = false := bne_eq_false_iff_eq.mpr c8
        clear c8
        obtain rfl := Option.some.inj H
        go_enter Try.func183, Try.ntmps183
        go_wp2
        go_ret
        exact ⟨zq6, zq10⟩
       ·rw [if_neg c8] at H
        have c8b0 : ((Int.tmod a0 10) == 6) = false := beq_eq_false_iff_ne.mpr c8
        have c8b1 : ((Int.tmod a0 10) != 6) = true := bne_iff_ne.mpr c8
        by_cases c9 : (Int.tmod a0 10) = 7
        ·rw [if_pos c9] at H
         have c9b0 : ((Int.tmod a0 10) == 7) = true := beq_iff_eq.mpr c9
         have c9b1 : ((Int.tmod a0 10) != 7) = false := bne_eq_false_iff_eq.mpr c9
         clear c9
         obtain rfl := Option.some.inj H
         go_enter Try.func183, Try.ntmps183
         go_wp2
         go_ret
         exact ⟨zq6, zq10⟩
        ·rw [if_neg c9] at H
         have c9b0 : ((Int.tmod a0 10) == 7) = false := beq_eq_false_iff_ne.mpr c9
         have c9b1 : ((Int.tmod a0 10) != 7) = true := bne_iff_ne.mpr c9
         by_cases c10 : (Int.tmod a0 10) = 8
         ·rw [if_pos c10] at H
          have c10b0 : ((Int.tmod a0 10) == 8) = true := beq_iff_eq.mpr c10
          have c10b1 : ((Int.tmod a0 10) != 8) = false := bne_eq_false_iff_eq.mpr c10
          clear c10
          obtain rfl := Option.some.inj H
          go_enter Try.func183, Try.ntmps183
          go_wp2
          go_ret
          exact ⟨zq6, zq10⟩
         ·rw [if_neg c10] at H
          have c10b0 : ((Int.tmod a0 10) == 8) = false := beq_eq_false_iff_ne.mpr c10
          have c10b1 : ((Int.tmod a0 10) != 8) = true := bne_iff_ne.mpr c10
          obtain rfl := Option.some.inj H
          go_enter Try.func183, Try.ntmps183
          go_wp2
          go_ret
          exact ⟨zq6, zq10⟩
mutual
def spec_l4drawLine.l0 : Nat → List Int → Int → Int → Int → List Int → Int → Option (List Int × Int)
 | 0, _, _, _, _, _, _ => none
 | k + 1, x4, x5, x6, x7, x1000, x1001 => if x7 < x5 then (if (Int.tmod x7 3) = 0 then ((spec_l1rd_next.f x1000 x1001).bind fun bt720 => (if x4.length < 140737488355328 then (spec_l4drawLine.l0 k (x4 ++ [(wrap64 (97 + (Int.tmod bt720.1 3))) % 256]) x5 (wrap64 (Int.tdiv bt720.1 3)) (wrap64 (x7 + 1)) x1000 bt720.2) else (none))) else (if x4.length < 140737488355328 then (spec_l4drawLine.l0 k (x4 ++ [(wrap64 (97 + (Int.tmod x6 3))) % 256]) x5 (wrap64 (Int.tdiv x6 3)) (wrap64 (x7 + 1)) x1000 x1001) else (none))) else (some (x4, x1001))
def spec_l4drawLine.l1 : Nat → List Int → Int → Int → List Int → Int → Option (List Int × Int)
 | 0, _, _, _, _, _ => none
 | k + 1, x4, x8, x9, x1000, x1001 => if x9 < x8 then ((spec_l1drawByte.f x1000 x1001).bind fun bt730 => (if bt730.1 = 10 then (if x4.length < 140737488355328 then (spec_l4drawLine.l1 k (x4 ++ [97]) x8 (wrap64 (x9 + 1)) x1000 bt730.2) else (none)) else (if bt730.1 = 126 then (if x4.length < 140737488355328 then (spec_l4drawLine.l1 k (x4 ++ [97]) x8 (wrap64 (x9 + 1)) x1000 bt730.2) else (none)) else (if x4.length < 140737488355328 then (spec_l4drawLine.l1 k (x4 ++ [(bt730.1) % 256]) x8 (wrap64 (x9 + 1)) x1000 bt730.2) else (none))))) else (some (x4, x1001))
end
def spec_l4drawLine.f (k : Nat) (s0_0 : List Int) (s0_1 : Int) : Option (List Int × Int) := (spec_l1rd_next.f s0_0 s0_1).bind fun bt716 => (if (Int.tmod bt716.1 8) < 3 then ((spec_l1rd_next.f s0_0 bt716.2).bind fun bt718 => (spec_l4drawLine.l0 k ([] : List Int) (Int.tmod bt718.1 9) 0 0 s0_0 bt718.2)) else (if (Int.tmod bt716.1 8) = 3 then ((spec_l1rd_next.f s0_0 bt716.2).bind fun bt728 => (spec_l4drawLine.l1 k ([] : List Int) (Int.tmod bt728.1 5) 0 s0_0 bt728.2)) else ((spec_l1rd_next.f s0_0 bt716.2).bind fun bt741 => ((spec_l4word.f bt741.1).bind fun t743 => (if ([] : List Int).length + t743.size < 140737488355328 then ((some (([] : List Int) ++ bytesOf t743 : List Int)).bind fun y744 => (if (Int.tmod bt716.1 8) < 6 then ((spec_l1rd_next.f s0_0 bt741.2).bind fun bt747 => (if (Int.tmod (wrap64 (Int.tdiv bt741.1 10)) 2) = 1 then (if y744.length < 140737488355328 then ((some (y744 ++ [32] : List Int)).bind fun y749 => ((spec_l4word.f bt747.1).bind fun t752 => (if y749.length + t752.size < 140737488355328 then ((some (y749 ++ bytesOf t752 : List Int)).bind fun y753 => (if (Int.tmod bt716.1 8) = 7 then (if y753.length < 140737488355328 then (some ((y753 ++ [(wrap64 (48 + (Int.tmod (wrap64 (Int.tdiv bt741.1 10)) 10))) % 256]), bt747.2)) else (none)) else (some (y753, bt747.2)))) else (none)))) else (none)) else ((spec_l4word.f bt747.1).bind fun t759 => (if y744.length + t759.size < 140737488355328 then ((some (y744 ++ bytesOf t759 : List Int)).bind fun y760 => (if (Int.tmod bt716.1 8) = 7 then (if y760.length < 140737488355328 then (some ((y760 ++ [(wrap64 (48 + (Int.tmod (wrap64 (Int.tdiv bt741.1 10)) 10))) % 256]), bt747.2)) else (none)) else (some (y760, bt747.2)))) else (none))))) else (if (Int.tmod bt716.1 8) = 7 then (if y744.length < 140737488355328 then (some ((y744 ++ [(wrap64 (48 + (Int.tmod bt741.1 10))) % 256]), bt741.2)) else (none)) else (some (y744, bt741.2))))) else (none))))))
theorem spec_l4drawLine.mono_l : ∀ k, (∀ y0 y1 y2 y3 y4 y5, LeO (spec_l4drawLine.l0 k y0 y1 y2 y3 y4 y5) (spec_l4drawLine.l0 (k + 1) y0 y1 y2 y3 y4 y5)) ∧ (∀ y0 y1 y2 y3 y4, LeO (spec_l4drawLine.l1 k y0 y1 y2 y3 y4) (spec_l4drawLine.l1 (k + 1) y0 y1 y2 y3 y4))
 | 0 => ⟨fun _ _ _ _ _ _ r h => by simp [spec_l4drawLine.l0] at h, fun _ _ _ _ _ r h => by simp [spec_l4drawLine.l1] at h⟩
 | k + 1 => by
  obtain ⟨ih0, ih1⟩ := spec_l4drawLine.mono_l k
  refine ⟨?_, ?_⟩
  ·intro y0 y1 y2 y3 y4 y5
   unfold spec_l4drawLine.l0
   repeat' first
   | (with_reducible exact ih0 _ _ _ _ _ _)
   | (with_reducible exact ih1 _ _ _ _ _)
   | (with_reducible exact LeO.refl _)
   | (with_reducible exact LeO.none _)
   | (with_reducible refine LeO.ite ?_ ?_)
   | (with_reducible refine LeO.bind ?_ (fun _ => ?_))
   | exact ih0 _ _ _ _ _ _
   | exact ih1 _ _ _ _ _
   | exact LeO.none _
   | refine LeO.ite ?_ ?_
   | refine LeO.bind ?_ (fun _ => ?_)
  ·intro y0 y1 y2 y3 y4
   unfold spec_l4drawLine.l1
   repeat' first
   | (with_reducible exact ih0 _ _ _ _ _ _)
   | (with_reducible exact ih1 _ _ _ _ _)
   | (with_reducible exact LeO.refl _)
   | (with_reducible exact LeO.none _)
   | (with_reducible refine LeO.ite ?_ ?_)
   | (with_reducible refine LeO.bind ?_ (fun _ => ?_))
   | exact ih0 _ _ _ _ _ _
   | exact ih1 _ _ _ _ _
   | exact LeO.none _
   | refine LeO.ite ?_ ?_
   | refine LeO.bind ?_ (fun _ => ?_)
theorem spec_l4drawLine.mono : ∀ a0 a1 k, LeO (spec_l4drawLine.f k a0 a1) (spec_l4drawLine.f (k + 1) a0 a1) := by
 intro a0 a1 k
 obtain ⟨ih0, ih1⟩ := spec_l4drawLine.mono_l k
 unfold spec_l4drawLine.f
 repeat' first
   | (with_reducible exact ih0 _ _ _ _ _ _)
   | (with_reducible exact ih1 _ _ _ _ _)
   | (with_reducible exact LeO.refl _)
   | (with_reducible exact LeO.none _)
   | (with_reducible refine LeO.ite ?_ ?_)
   | (with_reducible refine LeO.bind ?_ (fun _ => ?_))
   | exact ih0 _ _ _ _ _ _
   | exact ih1 _ _ _ _ _
   | exact LeO.none _
   | refine LeO.ite ?_ ?_
   | refine LeO.bind ?_ (fun _ => ?_)
set_option maxHeartbeats 8000000 in
set_option maxRecDepth 100000 in
theorem spec_l4drawLine.calls (k : Nat) (g : Nat) (s0_0 : List Int) (s0_1 : Int) (r1 : List Int) (r2 : Int) (w0 w : World) (hI : IsS168 w0 w g s0_0 s0_1) (hB : Below w0.heap.size w0 w) (h : spec_l4drawLine.f k s0_0 s0_1 = some (r1, r2)) :
  Calls Try.prog 174 #[.pointer (some ⟨g, 0, none⟩)] w fun e w' => ∃ v0_ : Value, e = .returned (v0_) ∧ Kd.R (Kd.int .u8) 5 w' w.heap.size (fun _ => True) v0_ r1 ∧ IsS168 w0 w' g s0_0 r2 ∧ Below w0.heap.size w0 w' ∧ KeepBut w w' g none := by
 have HI0 := zA hI
 have HK := zA (KeepBut.refl w g none)
 have HL := zA hB.size
 clear hI
 have HW0 := zA hB.size
 have HB := zA hB
 clear hB
 have H : ((spec_l1rd_next.f s0_0 s0_1).bind fun bt716 => (if (Int.tmod bt716.1 8) < 3 then ((spec_l1rd_next.f s0_0 bt716.2).bind fun bt718 => (spec_l4drawLine.l0 k ([] : List Int) (Int.tmod bt718.1 9) 0 0 s0_0 bt718.2)) else (if (Int.tmod bt716.1 8) = 3 then ((spec_l1rd_next.f s0_0 bt716.2).bind fun bt728 => (spec_l4drawLine.l1 k ([] : List Int) (Int.tmod bt728.1 5) 0 s0_0 bt728.2)) else ((spec_l1rd_next.f s0_0 bt716.2).bind fun bt741 => ((spec_l4word.f bt741.1).bind fun t743 => (if ([] : List Int).length + t743.size < 140737488355328 then ((some (([] : List Int) ++ bytesOf t743 : List Int)).bind fun y744 => (if (Int.tmod bt716.1 8) < 6 then ((spec_l1rd_next.f s0_0 bt741.2).bind fun bt747 => (if (Int.tmod (wrap64 (Int.tdiv bt741.1 10)) 2) = 1 then (if y744.length < 140737488355328 then ((some (y744 ++ [32] : List Int)).bind fun y749 => ((spec_l4word.f bt747.1).bind fun t752 => (if y749.length + t752.size < 140737488355328 then ((some (y749 ++ bytesOf t752 : List Int)).bind fun y753 => (if (Int.tmod bt716.1 8) = 7 then (if y753.length < 140737488355328 then (some ((y753 ++ [(wrap64 (48 + (Int.tmod (wrap64 (Int.tdiv bt741.1 10)) 10))) % 256]), bt747.2)) else (none)) else (some (y753, bt747.2)))) else (none)))) else (none)) else ((spec_l4word.f bt747.1).bind fun t759 => (if y744.length + t759.size < 140737488355328 then ((some (y744 ++ bytesOf t759 : List Int)).bind fun y760 => (if (Int.tmod bt716.1 8) = 7 then (if y760.length < 140737488355328 then (some ((y760 ++ [(wrap64 (48 + (Int.tmod (wrap64 (Int.tdiv bt741.1 10)) 10))) % 256]), bt747.2)) else (none)) else (some (y760, bt747.2)))) else (none))))) else (if (Int.tmod bt716.1 8) = 7 then (if y744.length < 140737488355328 then (some ((y744 ++ [(wrap64 (48 + (Int.tmod bt741.1 10))) % 256]), bt741.2)) else (none)) else (some (y744, bt741.2))))) else (none))))))) = some (r1, r2) := h
 clear h
 replace H := Option.bind_eq_some_iff.mp H
 obtain ⟨⟨t716, t717⟩, A20, H⟩ := H
 replace H : (if (Int.tmod t716 8) < 3 then ((spec_l1rd_next.f s0_0 t717).bind fun bt718 => (spec_l4drawLine.l0 k ([] : List Int) (Int.tmod bt718.1 9) 0 0 s0_0 bt718.2)) else (if (Int.tmod t716 8) = 3 then ((spec_l1rd_next.f s0_0 t717).bind fun bt728 => (spec_l4drawLine.l1 k ([] : List Int) (Int.tmod bt728.1 5) 0 s0_0 bt728.2)) else ((spec_l1rd_next.f s0_0 t717).bind fun bt741 => ((spec_l4word.f bt741.1).bind fun t743 => (if ([] : List Int).length + t743.size < 140737488355328 then ((some (([] : List Int) ++ bytesOf t743 : List Int)).bind fun y744 => (if (Int.tmod t716 8) < 6 then ((spec_l1rd_next.f s0_0 bt741.2).bind fun bt747 => (if (Int.tmod (wrap64 (Int.tdiv bt741.1 10)) 2) = 1 then (if y744.length < 140737488355328 then ((some (y744 ++ [32] : List Int)).bind fun y749 => ((spec_l4word.f bt747.1).bind fun t752 => (if y749.length + t752.size < 140737488355328 then ((some (y749 ++ bytesOf t752 : List Int)).bind fun y753 => (if (Int.tmod t716 8) = 7 then (if y753.length < 140737488355328 then (some ((y753 ++ [(wrap64 (48 + (Int.tmod (wrap64 (Int.tdiv bt741.1 10)) 10))) % 256]), bt747.2)) else (none)) else (some (y753, bt747.2)))) else (none)))) else (none)) else ((spec_l4word.f bt747.1).bind fun t759 => (if y744.length + t759.size < 140737488355328 then ((some (y744 ++ bytesOf t759 : List Int)).bind fun y760 => (if (Int.tmod t716 8) = 7 then (if y760.length < 140737488355328 then (some ((y760 ++ [(wrap64 (48 + (Int.tmod (wrap64 (Int.tdiv bt741.1 10)) 10))) % 256]), bt747.2)) else (none)) else (some (y760, bt747.2)))) else (none))))) else (if (Int.tmod t716 8) = 7 then (if y744.length < 140737488355328 then (some ((y744 ++ [(wrap64 (48 + (Int.tmod bt741.1 10))) % 256]), bt741.2)) else (none)) else (some (y744, bt741.2))))) else (none)))))) = some (r1, r2) := H
 have A2 := zA A20
 clear A20
 by_cases c3 : (Int.tmod t716 8) < 3
 ·rw [if_pos c3] at H
  have c3b0 : decide ((Int.tmod t716 8) < 3) = true := decide_eq_true c3
  clear c3
  replace H := Option.bind_eq_some_iff.mp H
  obtain ⟨⟨t718, t719⟩, A40, H⟩ := H
  replace H : (spec_l4drawLine.l0 k ([] : List Int) (Int.tmod t718 9) 0 0 s0_0 t719) = some (r1, r2) := H
  have A4 := zA A40
  clear A40
  have H' := zA H
  clear H
  go_enter Try.func174, Try.ntmps174
  go_wp2_with (first | ((with_reducible refine gate_callee (f := 116) rfl ?_); refine goesL_ (some 14) rfl rfl Try.func116 zq12 rfl #[.pointer (some ⟨g, 0, none⟩)] rfl zq2 ?_; (with_reducible refine (spec_l1rd_next.calls g s0_0 s0_1 t716 t717 w0 _ ?side1 ?side2 A2.out).mono ?_); (case side1 => repeat (first | (with_reducible first | exact HI0.out | apply IsS168.alloc | apply IsS168.drewN | apply IsS168.drew | apply IsS168.set_1) | exact HI0.out)); (case side2 => repeat (first | (with_reducible first | exact HB.out | apply below_alloc | apply pw_below_drewN | apply below_drew1 | refine below_set ?_ (IsS168.ge HI0.out)) | exact HB.out)); rintro e w5 ⟨rfl, hi, hb, hk⟩; refine ⟨_, rfl, ?_⟩; have n0_ := zA (KeepBut.trans zq1 hk (.inl rfl)); have n1_ := zA (hb); have n2_ := zA (hi); clear HK; clear HB; clear HI0; have HK := n0_; have HB := n1_; have HI0 := n2_; clear n0_ n1_ n2_; (try clear hb); (try clear hb2); (try clear hk); (try clear hi)) | ((with_reducible refine gate_callee (f := 116) rfl ?_); refine goesL_ (some 19) rfl rfl Try.func116 zq12 rfl #[.pointer (some ⟨g, 0, none⟩)] rfl zq2 ?_; (with_reducible refine (spec_l1rd_next.calls g s0_0 t717 t718 t719 w0 _ ?side1 ?side2 A4.out).mono ?_); (case side1 => repeat (first | (with_reducible first | exact HI0.out | apply IsS168.alloc | apply IsS168.drewN | apply IsS168.drew | apply IsS168.set_1) | exact HI0.out)); (case side2 => repeat (first | (with_reducible first | exact HB.out | apply below_alloc | apply pw_below_drewN | apply below_drew1 | refine below_set ?_ (IsS168.ge HI0.out)) | exact HB.out)); rintro e w6 ⟨rfl, hi, hb, hk⟩; refine ⟨_, rfl, ?_⟩; have n0_ := zA (KeepBut.trans zq1 hk (.inl rfl)); have n1_ := zA (hb); have n2_ := zA (hi); clear HK; clear HB; clear HI0; have HK := n0_; have HB := n1_; have HI0 := n2_; clear n0_ n1_ n2_; (try clear hb); (try clear hb2); (try clear hk); (try clear hi)))
  go_loopg [4, 6, 7] k (fun kq v4 v6 v7 w' => ∃ (x4_1 : List Int) (x6_1 : Int) (x7_1 : Int) (x1001_1 : Int), v6 = .int .i64 x6_1 ∧ v7 = .int .i64 x7_1 ∧ Aside0 (spec_l4drawLine.l0 kq x4_1 (Int.tmod t718 9) x6_1 x7_1 s0_0 x1001_1 = some (r1, r2)) ∧ Aside0 (kq ≤ k) ∧ Aside0 (Kd.R (Kd.int .u8) 5 w' w.heap.size (fun _ => True) v4 x4_1) ∧ Aside0 (IsS168 w0 w' g s0_0 x1001_1) ∧ Aside0 (KeepBut w w' g none) ∧ Aside0 (Below w0.heap.size w0 w'))
  case atStart => exact ⟨(([] : List Int)), (0), (0), (t719), zq6, zq6, H', ⟨Nat.le_refl _⟩, ⟨zq21⟩, ⟨zq5⟩, ⟨zq1⟩, ⟨by repeat (first | (with_reducible first | exact HB.out | apply below_alloc | apply pw_below_drewN | apply below_drew1 | refine below_set ?_ (IsS168.ge HI0.out)) | exact HB.out)⟩⟩
  case round =>
   clear H'
   try clear c1
   try clear p2
   try clear c3
   try clear c3b0
   try clear p6
   obtain ⟨x4_1, x6_1, x7_1, x1001_1, rfl, rfl, HA, HK1, HO_4, HI0, HK, HB⟩ := hrel
   cases gk with
   | zero => exact absurd HA.out (by simp [spec_l4drawLine.l0])
   | succ k1 =>
    have H := HA.out
    clear HA
    simp only [spec_l4drawLine.l0] at H
    by_cases c7 : x7_1 < (Int.tmod t718 9)
    ·rw [if_pos c7] at H
     have c7b0 : decide (x7_1 < (Int.tmod t718 9)) = true := decide_eq_true c7
     clear c7
     by_cases c8 : (Int.tmod x7_1 3) = 0
     ·rw [if_pos c8] at H
      have c8b0 : ((Int.tmod x7_1 3) == 0) = true := beq_iff_eq.mpr c8
      have c8b1 : ((Int.tmod x7_1 3) != 0) = false := bne_eq_false_iff_eq.mpr c8
      clear c8
      replace H := Option.bind_eq_some_iff.mp H
      obtain ⟨⟨t720, t721⟩, A90, H⟩ := H
      replace H : (if x4_1.length < 140737488355328 then (spec_l4drawLine.l0 k1 (x4_1 ++ [(wrap64 (97 + (Int.tmod t720 3))) % 256]) (Int.tmod t718 9) (wrap64 (Int.tdiv t720 3)) (wrap64 (x7_1 + 1)) s0_0 t721) else (none)) = some (r1, r2) := H
      have A9 := zA A90
      clear A90
      by_cases c10 : x4_1.length < 140737488355328
      ·rw [if_pos c10] at H
       have LMc10 := zA c10
       clear c10
       obtain ⟨y722, hy722⟩ : ∃ y_ : List Int, y_ = (x4_1 ++ [(wrap64 (97 + (Int.tmod t720 3))) % 256]) := ⟨_, rfl⟩
       replace H : (spec_l4drawLine.l0 k1 y722 (Int.tmod t718 9) (wrap64 (Int.tdiv t720 3)) (wrap64 (x7_1 + 1)) s0_0 t721) = some (r1, r2) := by first | (rw [hy722]; with_reducible exact H) | (have H2_ := (Option.bind_some _ _).symm.trans H; rw [hy722]; with_reducible exact H2_) | (have H2_ := (Option.bind_some _ _).symm.trans H; with_reducible exact H2_) | with_reducible exact H | (rw [hy722]; exact H) | exact H
       have Ny722 := zA hy722
       clear hy722
       have H' := zA H
       clear H
       go_wp2_with (first | ((with_reducible refine gate_callee (f := 116) rfl ?_); refine goesL_ (some 30) rfl rfl Try.func116 zq12 rfl #[.pointer (some ⟨g, 0, none⟩)] rfl zq2 ?_; (with_reducible refine (spec_l1rd_next.calls g s0_0 x1001_1 t720 t721 w0 _ ?side1 ?side2 A9.out).mono ?_); (case side1 => repeat (first | (with_reducible first | exact HI0.out | apply IsS168.alloc | apply IsS168.drewN | apply IsS168.drew | apply IsS168.set_1) | exact HI0.out)); (case side2 => repeat (first | (with_reducible first | exact HB.out | apply below_alloc | apply pw_below_drewN | apply below_drew1 | refine below_set ?_ (IsS168.ge HI0.out)) | exact HB.out)); rintro e w11 ⟨rfl, hi, hb, hk⟩; refine ⟨_, rfl, ?_⟩; have n0_ := zA (Kd.R_mono (Kd.R_keep (IsS168.apart (show IsS168 w0 _ g s0_0 x1001_1 from by repeat (first | (with_reducible first | exact HI0.out | apply IsS168.alloc | apply IsS168.drewN | apply IsS168.drew | apply IsS168.set_1) | exact HI0.out)) zq11 zq13) hk (fun _ h => h.2)) (fun _ h => h.1)); have n1_ := zA (KeepBut.trans zq1 hk (.inl rfl)); have n2_ := zA (hb); have n3_ := zA (hi); clear HO_4; clear HK; clear HB; clear HI0; have HO_4 := n0_; have HK := n1_; have HB := n2_; have HI0 := n3_; clear n0_ n1_ n2_ n3_; (try clear hb); (try clear hb2); (try clear hk); (try clear hi)) | ((with_reducible refine gate_builtin (b := .append) (xs := #[.tmp 31, .tmp 36]) rfl ?_); at_builtin; refine Kd.R_append (Kd.int .u8) w.heap.size rfl (.tmp 31) (.tmp 36) 33 5 (.int .u8 0) 1 rfl Try.underlying33 info5 rfl zq13 zq3 u4 x4_1 ((wrap64 (97 + (Int.tmod t720 3))) % 256) [.int .u8 ((wrap64 (97 + (Int.tmod t720 3))) % 256)] (fun _ => True) (fun _ => False) rfl rfl ?aP (fun _ hk => hk.elim) ?aF ?aO (Below.refl _ _) ?aS ?aL ?_; (case aP => exact rfl); (case aF => exact (fun _ _ => trivial)); (case aO => exact zq11); (case aS => exact (keep_size (w := w) (g := g) (row := none) zq1)); (case aL => have := LMc10.out; omega); intro v723 w12 ho hb hg hat; rw [← Ny722.out] at ho; have n0_ := zA (IsS168.grown zq5 hg (IsS168.own_ne HI0.out HO_4.out zq13)); have n1_ := zA (below_weaken (by repeat (first | (with_reducible first | exact HB.out | apply below_alloc | apply pw_below_drewN | apply below_drew1 | refine below_set ?_ (IsS168.ge HI0.out)) | exact HB.out)) HL.out hb); have n2_ := zA (KeepBut.trans zq1 (KeepBut.of_grown hg g) (Kd.R_base2 HO_4.out)); have n3_ := zA (ho); clear HI0; clear HB; clear HK; clear HO_4; have HI0 := n0_; have HB := n1_; have HK := n2_; have HO724 := n3_; clear n0_ n1_ n2_ n3_; clear ho hb hg hat))
       go_roundg k1
       case measure => have := HK1.out; omega
       case rel => exact ⟨(y722), (wrap64 (Int.tdiv t720 3)), (wrap64 (x7_1 + 1)), (t721), zq6, zq6, H', ⟨zq39⟩, ⟨by (with_reducible repeat (first | apply Kd.R_alloc | apply Kd.R_drewN | apply Kd.R_drew)); exact HO724.out⟩, ⟨zq5⟩, ⟨zq1⟩, ⟨by repeat (first | (with_reducible first | exact HB.out | apply below_alloc | apply pw_below_drewN | apply below_drew1 | refine below_set ?_ (IsS168.ge HI0.out)) | exact HB.out)⟩⟩
      ·rw [if_neg c10] at H
       exact absurd H zq14
     ·rw [if_neg c8] at H
      have c8b0 : ((Int.tmod x7_1 3) == 0) = false := beq_eq_false_iff_ne.mpr c8
      have c8b1 : ((Int.tmod x7_1 3) != 0) = true := bne_iff_ne.mpr c8
      by_cases c13 : x4_1.length < 140737488355328
      ·rw [if_pos c13] at H
       have LMc13 := zA c13
       clear c13
       obtain ⟨y725, hy725⟩ : ∃ y_ : List Int, y_ = (x4_1 ++ [(wrap64 (97 + (Int.tmod x6_1 3))) % 256]) := ⟨_, rfl⟩
       replace H : (spec_l4drawLine.l0 k1 y725 (Int.tmod t718 9) (wrap64 (Int.tdiv x6_1 3)) (wrap64 (x7_1 + 1)) s0_0 x1001_1) = some (r1, r2) := by first | (rw [hy725]; with_reducible exact H) | (have H2_ := (Option.bind_some _ _).symm.trans H; rw [hy725]; with_reducible exact H2_) | (have H2_ := (Option.bind_some _ _).symm.trans H; with_reducible exact H2_) | with_reducible exact H | (rw [hy725]; exact H) | exact H
       have Ny725 := zA hy725
       clear hy725
       have H' := zA H
       clear H
       go_wp2_with (first | ((with_reducible refine gate_builtin (b := .append) (xs := #[.tmp 31, .tmp 36]) rfl ?_); at_builtin; refine Kd.R_append (Kd.int .u8) w.heap.size rfl (.tmp 31) (.tmp 36) 33 5 (.int .u8 0) 1 rfl Try.underlying33 info5 rfl zq13 zq3 u4 x4_1 ((wrap64 (97 + (Int.tmod x6_1 3))) % 256) [.int .u8 ((wrap64 (97 + (Int.tmod x6_1 3))) % 256)] (fun _ => True) (fun _ => False) rfl rfl ?aP (fun _ hk => hk.elim) ?aF ?aO (Below.refl _ _) ?aS ?aL ?_; (case aP => exact rfl); (case aF => exact (fun _ _ => trivial)); (case aO => exact zq11); (case aS => exact (keep_size (w := w) (g := g) (row := none) zq1)); (case aL => have := LMc13.out; omega); intro v726 w14 ho hb hg hat; rw [← Ny725.out] at ho; have n0_ := zA (IsS168.grown zq5 hg (IsS168.own_ne HI0.out HO_4.out zq13)); have n1_ := zA (below_weaken (by repeat (first | (with_reducible first | exact HB.out | apply below_alloc | apply pw_below_drewN | apply below_drew1 | refine below_set ?_ (IsS168.ge HI0.out)) | exact HB.out)) HL.out hb); have n2_ := zA (KeepBut.trans zq1 (KeepBut.of_grown hg g) (Kd.R_base2 HO_4.out)); have n3_ := zA (ho); clear HI0; clear HB; clear HK; clear HO_4; have HI0 := n0_; have HB := n1_; have HK := n2_; have HO727 := n3_; clear n0_ n1_ n2_ n3_; clear ho hb hg hat))
       go_roundg k1
       case measure => have := HK1.out; omega
       case rel => exact ⟨(y725), (wrap64 (Int.tdiv x6_1 3)), (wrap64 (x7_1 + 1)), (x1001_1), zq6, zq6, H', ⟨zq39⟩, ⟨by (with_reducible repeat (first | apply Kd.R_alloc | apply Kd.R_drewN | apply Kd.R_drew)); exact HO727.out⟩, ⟨zq5⟩, ⟨zq1⟩, ⟨by repeat (first | (with_reducible first | exact HB.out | apply below_alloc | apply pw_below_drewN | apply below_drew1 | refine below_set ?_ (IsS168.ge HI0.out)) | exact HB.out)⟩⟩
      ·rw [if_neg c13] at H
       exact absurd H zq14
    ·rw [if_neg c7] at H
     have c7b0 : decide (x7_1 < (Int.tmod t718 9)) = false := decide_eq_false c7
     clear c7
     simp only [Option.some.injEq, Prod.mk.injEq] at H
     obtain ⟨rfl, rfl⟩ := H
     go_wp2
     go_ret
     exact ⟨_, zq9, zq11, zq5, by repeat (first | (with_reducible first | exact HB.out | apply below_alloc | apply pw_below_drewN | apply below_drew1 | refine below_set ?_ (IsS168.ge HI0.out)) | exact HB.out), zq1⟩
 ·rw [if_neg c3] at H
  have c3b0 : decide ((Int.tmod t716 8) < 3) = false := decide_eq_false c3
  clear c3
  by_cases c15 : (Int.tmod t716 8) = 3
  ·rw [if_pos c15] at H
   have c15b0 : ((Int.tmod t716 8) == 3) = true := beq_iff_eq.mpr c15
   have c15b1 : ((Int.tmod t716 8) != 3) = false := bne_eq_false_iff_eq.mpr c15
   clear c15
   replace H := Option.bind_eq_some_iff.mp H
   obtain ⟨⟨t728, t729⟩, A160, H⟩ := H
   replace H : (spec_l4drawLine.l1 k ([] : List Int) (Int.tmod t728 5) 0 s0_0 t729) = some (r1, r2) := H
   have A16 := zA A160
   clear A160
   have H' := zA H
   clear H
   go_enter Try.func174, Try.ntmps174
   go_wp2_with (first | ((with_reducible refine gate_callee (f := 116) rfl ?_); refine goesL_ (some 14) rfl rfl Try.func116 zq12 rfl #[.pointer (some ⟨g, 0, none⟩)] rfl zq2 ?_; (with_reducible refine (spec_l1rd_next.calls g s0_0 s0_1 t716 t717 w0 _ ?side1 ?side2 A2.out).mono ?_); (case side1 => repeat (first | (with_reducible first | exact HI0.out | apply IsS168.alloc | apply IsS168.drewN | apply IsS168.drew | apply IsS168.set_1) | exact HI0.out)); (case side2 => repeat (first | (with_reducible first | exact HB.out | apply below_alloc | apply pw_below_drewN | apply below_drew1 | refine below_set ?_ (IsS168.ge HI0.out)) | exact HB.out)); rintro e w17 ⟨rfl, hi, hb, hk⟩; refine ⟨_, rfl, ?_⟩; have n0_ := zA (KeepBut.trans zq1 hk (.inl rfl)); have n1_ := zA (hb); have n2_ := zA (hi); clear HK; clear HB; clear HI0; have HK := n0_; have HB := n1_; have HI0 := n2_; clear n0_ n1_ n2_; (try clear hb); (try clear hb2); (try clear hk); (try clear hi)) | ((with_reducible refine gate_callee (f := 116) rfl ?_); refine goesL_ (some 44) rfl rfl Try.func116 zq12 rfl #[.pointer (some ⟨g, 0, none⟩)] rfl zq2 ?_; (with_reducible refine (spec_l1rd_next.calls g s0_0 t717 t728 t729 w0 _ ?side1 ?side2 A16.out).mono ?_); (case side1 => repeat (first | (with_reducible first | exact HI0.out | apply IsS168.alloc | apply IsS168.drewN | apply IsS168.drew | apply IsS168.set_1) | exact HI0.out)); (case side2 => repeat (first | (with_reducible first | exact HB.out | apply below_alloc | apply pw_below_drewN | apply below_drew1 | refine below_set ?_ (IsS168.ge HI0.out)) | exact HB.out)); rintro e w18 ⟨rfl, hi, hb, hk⟩; refine ⟨_, rfl, ?_⟩; have n0_ := zA (KeepBut.trans zq1 hk (.inl rfl)); have n1_ := zA (hb); have n2_ := zA (hi); clear HK; clear HB; clear HI0; have HK := n0_; have HB := n1_; have HI0 := n2_; clear n0_ n1_ n2_; (try clear hb); (try clear hb2); (try clear hk); (try clear hi)))
   go_loopg [4, 9] k (fun kq v4 v9 w' => ∃ (x4_1 : List Int) (x9_1 : Int) (x1001_1 : Int), v9 = .int .i64 x9_1 ∧ Aside0 (spec_l4drawLine.l1 kq x4_1 (Int.tmod t728 5) x9_1 s0_0 x1001_1 = some (r1, r2)) ∧ Aside0 (kq ≤ k) ∧ Aside0 (Kd.R (Kd.int .u8) 5 w' w.heap.size (fun _ => True) v4 x4_1) ∧ Aside0 (IsS168 w0 w' g s0_0 x1001_1) ∧ Aside0 (KeepBut w w' g none) ∧ Aside0 (Below w0.heap.size w0 w'))
   case atStart => exact ⟨(([] : List Int)), (0), (t729), zq6, H', ⟨Nat.le_refl _⟩, ⟨zq21⟩, ⟨zq5⟩, ⟨zq1⟩, ⟨by repeat (first | (with_reducible first | exact HB.out | apply below_alloc | apply pw_below_drewN | apply below_drew1 | refine below_set ?_ (IsS168.ge HI0.out)) | exact HB.out)⟩⟩
   case round =>
    clear H'
    try clear c1
    try clear p2
    try clear c3
    try clear c3b0
    try clear p6
    try clear c7
    try clear c7b0
    try clear c8
    try clear c8b0
    try clear c8b1
    try clear c10
    try clear c11
    try clear c13
    try clear c15
    try clear c15b0
    try clear c15b1
    try clear c17
    try clear p2
    try clear p6
    obtain ⟨x4_1, x9_1, x1001_1, rfl, HA, HK1, HO_4, HI0, HK, HB⟩ := hrel
    cases gk with
    | zero => exact absurd HA.out (by simp [spec_l4drawLine.l1])
    | succ k1 =>
     have H := HA.out
     clear HA
     simp only [spec_l4drawLine.l1] at H
     by_cases c19 : x9_1 < (Int.tmod t728 5)
     ·rw [if_pos c19] at H
      have c19b0 : decide (x9_1 < (Int.tmod t728 5)) = true := decide_eq_true c19
      clear c19
      replace H := Option.bind_eq_some_iff.mp H
      obtain ⟨⟨t730, t731⟩, A200, H⟩ := H
      replace H : (if t730 = 10 then (if x4_1.length < 140737488355328 then (spec_l4drawLine.l1 k1 (x4_1 ++ [97]) (Int.tmod t728 5) (wrap64 (x9_1 + 1)) s0_0 t731) else (none)) else (if t730 = 126 then (if x4_1.length < 140737488355328 then (spec_l4drawLine.l1 k1 (x4_1 ++ [97]) (Int.tmod t728 5) (wrap64 (x9_1 + 1)) s0_0 t731) else (none)) else (if x4_1.length < 140737488355328 then (spec_l4drawLine.l1 k1 (x4_1 ++ [(t730) % 256]) (Int.tmod t728 5) (wrap64 (x9_1 + 1)) s0_0 t731) else (none)))) = some (r1, r2) := H
      have A20 := zA A200
      clear A200
      by_cases c21 : t730 = 10
      ·rw [if_pos c21] at H
       have c21b0 : (t730 == 10) = true := beq_iff_eq.mpr c21
       have c21b1 : (t730 != 10) = false := bne_eq_false_iff_eq.mpr c21
       clear c21
       by_cases c22 : x4_1.length < 140737488355328
       ·rw [if_pos c22] at H
        have LMc22 := zA c22
        clear c22
        obtain ⟨y732, hy732⟩ : ∃ y_ : List Int, y_ = (x4_1 ++ [97]) := ⟨_, rfl⟩
        replace H : (spec_l4drawLine.l1 k1 y732 (Int.tmod t728 5) (wrap64 (x9_1 + 1)) s0_0 t731) = some (r1, r2) := by first | (rw [hy732]; with_reducible exact H) | (have H2_ := (Option.bind_some _ _).symm.trans H; rw [hy732]; with_reducible exact H2_) | (have H2_ := (Option.bind_some _ _).symm.trans H; with_reducible exact H2_) | with_reducible exact H | (rw [hy732]; exact H) | exact H
        have Ny732 := zA hy732
        clear hy732
        have H' := zA H
        clear H
        go_wp2_with (first | ((with_reducible refine gate_callee (f := 182) rfl ?_); refine goesL_ (some 52) rfl rfl Try.func182 zq12 rfl #[.pointer (some ⟨g, 0, none⟩)] rfl zq2 ?_; (with_reducible refine (spec_l1drawByte.calls g s0_0 x1001_1 t730 t731 w0 _ ?side1 ?side2 A20.out).mono ?_); (case side1 => repeat (first | (with_reducible first | exact HI0.out | apply IsS168.alloc | apply IsS168.drewN | apply IsS168.drew | apply IsS168.set_1) | exact HI0.out)); (case side2 => repeat (first | (with_reducible first | exact HB.out | apply below_alloc | apply pw_below_drewN | apply below_drew1 | refine below_set ?_ (IsS168.ge HI0.out)) | exact HB.out)); rintro e w23 ⟨rfl, hi, hb, hk⟩; refine ⟨_, rfl, ?_⟩; have n0_ := zA (Kd.R_mono (Kd.R_keep (IsS168.apart (show IsS168 w0 _ g s0_0 x1001_1 from by repeat (first | (with_reducible first | exact HI0.out | apply IsS168.alloc | apply IsS168.drewN | apply IsS168.drew | apply IsS168.set_1) | exact HI0.out)) zq11 zq13) hk (fun _ h => h.2)) (fun _ h => h.1)); have n1_ := zA (KeepBut.trans zq1 hk (.inl rfl)); have n2_ := zA (hb); have n3_ := zA (hi); clear HO_4; clear HK; clear HB; clear HI0; have HO_4 := n0_; have HK := n1_; have HB := n2_; have HI0 := n3_; clear n0_ n1_ n2_ n3_; (try clear hb); (try clear hb2); (try clear hk); (try clear hi)) | ((with_reducible refine gate_builtin (b := .append) (xs := #[.tmp 59, .tmp 62]) rfl ?_); at_builtin; refine Kd.R_append (Kd.int .u8) w.heap.size rfl (.tmp 59) (.tmp 62) 33 5 (.int .u8 0) 1 rfl Try.underlying33 info5 rfl zq13 zq3 u4 x4_1 97 [.int .u8 97] (fun _ => True) (fun _ => False) rfl rfl ?aP (fun _ hk => hk.elim) ?aF ?aO (Below.refl _ _) ?aS ?aL ?_; (case aP => exact rfl); (case aF => exact (fun _ _ => trivial)); (case aO => exact zq11); (case aS => exact (keep_size (w := w) (g := g) (row := none) zq1)); (case aL => have := LMc22.out; omega); intro v733 w24 ho hb hg hat; rw [← Ny732.out] at ho; have n0_ := zA (IsS168.grown zq5 hg (IsS168.own_ne HI0.out HO_4.out zq13)); have n1_ := zA (below_weaken (by repeat (first | (with_reducible first | exact HB.out | apply below_alloc | apply pw_below_drewN | apply below_drew1 | refine below_set ?_ (IsS168.ge HI0.out)) | exact HB.out)) HL.out hb); have n2_ := zA (KeepBut.trans zq1 (KeepBut.of_grown hg g) (Kd.R_base2 HO_4.out)); have n3_ := zA (ho); clear HI0; clear HB; clear HK; clear HO_4; have HI0 := n0_; have HB := n1_; have HK := n2_; have HO734 := n3_; clear n0_ n1_ n2_ n3_; clear ho hb hg hat))
        go_roundg k1
        case measure => have := HK1.out; omega
        case rel => exact ⟨(y732), (wrap64 (x9_1 + 1)), (t731), zq6, H', ⟨zq39⟩, ⟨by (with_reducible repeat (first | apply Kd.R_alloc | apply Kd.R_drewN | apply Kd.R_drew)); exact HO734.out⟩, ⟨zq5⟩, ⟨zq1⟩, ⟨by repeat (first | (with_reducible first | exact HB.out | apply below_alloc | apply pw_below_drewN | apply below_drew1 | refine below_set ?_ (IsS168.ge HI0.out)) | exact HB.out)⟩⟩
       ·rw [if_neg c22] at H
        exact absurd H zq14
      ·rw [if_neg c21] at H
       have c21b0 : (t730 == 10) = false := beq_eq_false_iff_ne.mpr c21
       have c21b1 : (t730 != 10) = true := bne_iff_ne.mpr c21
       by_cases c25 : t730 = 126
       ·rw [if_pos c25] at H
        have c25b0 : (t730 == 126) = true := beq_iff_eq.mpr c25
        have c25b1 : (t730 != 126) = false := bne_eq_false_iff_eq.mpr c25
        clear c25
        by_cases c26 : x4_1.length < 140737488355328
        ·rw [if_pos c26] at H
         have LMc26 := zA c26
         clear c26
         obtain ⟨y735, hy735⟩ : ∃ y_ : List Int, y_ = (x4_1 ++ [97]) := ⟨_, rfl⟩
         replace H : (spec_l4drawLine.l1 k1 y735 (Int.tmod t728 5) (wrap64 (x9_1 + 1)) s0_0 t731) = some (r1, r2) := by first | (rw [hy735]; with_reducible exact H) | (have H2_ := (Option.bind_some _ _).symm.trans H; rw [hy735]; with_reducible exact H2_) | (have H2_ := (Option.bind_some _ _).symm.trans H; with_reducible exact H2_) | with_reducible exact H | (rw [hy735]; exact H) | exact H
         have Ny735 := zA hy735
         clear hy735
         have H' := zA H
         clear H
         go_wp2_with (first | ((with_reducible refine gate_callee (f := 182) rfl ?_); refine goesL_ (some 52) rfl rfl Try.func182 zq12 rfl #[.pointer (some ⟨g, 0, none⟩)] rfl zq2 ?_; (with_reducible refine (spec_l1drawByte.calls g s0_0 x1001_1 t730 t731 w0 _ ?side1 ?side2 A20.out).mono ?_); (case side1 => repeat (first | (with_reducible first | exact HI0.out | apply IsS168.alloc | apply IsS168.drewN | apply IsS168.drew | apply IsS168.set_1) | exact HI0.out)); (case side2 => repeat (first | (with_reducible first | exact HB.out | apply below_alloc | apply pw_below_drewN | apply below_drew1 | refine below_set ?_ (IsS168.ge HI0.out)) | exact HB.out)); rintro e w27 ⟨rfl, hi, hb, hk⟩; refine ⟨_, rfl, ?_⟩; have n0_ := zA (Kd.R_mono (Kd.R_keep (IsS168.apart (show IsS168 w0 _ g s0_0 x1001_1 from by repeat (first | (with_reducible first | exact HI0.out | apply IsS168.alloc | apply IsS168.drewN | apply IsS168.drew | apply IsS168.set_1) | exact HI0.out)) zq11 zq13) hk (fun _ h => h.2)) (fun _ h => h.1)); have n1_ := zA (KeepBut.trans zq1 hk (.inl rfl)); have n2_ := zA (hb); have n3_ := zA (hi); clear HO_4; clear HK; clear HB; clear HI0; have HO_4 := n0_; have HK := n1_; have HB := n2_; have HI0 := n3_; clear n0_ n1_ n2_ n3_; (try clear hb); (try clear hb2); (try clear hk); (try clear hi)) | ((with_reducible refine gate_builtin (b := .append) (xs := #[.tmp 59, .tmp 62]) rfl ?_); at_builtin; refine Kd.R_append (Kd.int .u8) w.heap.size rfl (.tmp 59) (.tmp 62) 33 5 (.int .u8 0) 1 rfl Try.underlying33 info5 rfl zq13 zq3 u4 x4_1 97 [.int .u8 97] (fun _ => True) (fun _ => False) rfl rfl ?aP (fun _ hk => hk.elim) ?aF ?aO (Below.refl _ _) ?aS ?aL ?_; (case aP => exact rfl); (case aF => exact (fun _ _ => trivial)); (case aO => exact zq11); (case aS => exact (keep_size (w := w) (g := g) (row := none) zq1)); (case aL => have := LMc26.out; omega); intro v736 w28 ho hb hg hat; rw [← Ny735.out] at ho; have n0_ := zA (IsS168.grown zq5 hg (IsS168.own_ne HI0.out HO_4.out zq13)); have n1_ := zA (below_weaken (by repeat (first | (with_reducible first | exact HB.out | apply below_alloc | apply pw_below_drewN | apply below_drew1 | refine below_set ?_ (IsS168.ge HI0.out)) | exact HB.out)) HL.out hb); have n2_ := zA (KeepBut.trans zq1 (KeepBut.of_grown hg g) (Kd.R_base2 HO_4.out)); have n3_ := zA (ho); clear HI0; clear HB; clear HK; clear HO_4; have HI0 := n0_; have HB := n1_; have HK := n2_; have HO737 := n3_; clear n0_ n1_ n2_ n3_; clear ho hb hg hat))
         go_roundg k1
         case measure => have := HK1.out; omega
         case rel => exact ⟨(y735), (wrap64 (x9_1 + 1)), (t731), zq6, H', ⟨zq39⟩, ⟨by (with_reducible repeat (first | apply Kd.R_alloc | apply Kd.R_drewN | apply Kd.R_drew)); exact HO737.out⟩, ⟨zq5⟩, ⟨zq1⟩, ⟨by repeat (first | (with_reducible first | exact HB.out | apply below_alloc | apply pw_below_drewN | apply below_drew1 | refine below_set ?_ (IsS168.ge HI0.out)) | exact HB.out)⟩⟩
        ·rw [if_neg c26] at H
         exact absurd H zq14
       ·rw [if_neg c25] at H
        have c25b0 : (t730 == 126) = false := beq_eq_false_iff_ne.mpr c25
        have c25b1 : (t730 != 126) = true := bne_iff_ne.mpr c25
        by_cases c29 : x4_1.length < 140737488355328
        ·rw [if_pos c29] at H
         have LMc29 := zA c29
         clear c29
         obtain ⟨y738, hy738⟩ : ∃ y_ : List Int, y_ = (x4_1 ++ [(t730) % 256]) := ⟨_, rfl⟩
         replace H : (spec_l4drawLine.l1 k1 y738 (Int.tmod t728 5) (wrap64 (x9_1 + 1)) s0_0 t731) = some (r1, r2) := by first | (rw [hy738]; with_reducible exact H) | (have H2_ := (Option.bind_some _ _).symm.trans H; rw [hy738]; with_reducible exact H2_) | (have H2_ := (Option.bind_some _ _).symm.trans H; with_reducible exact H2_) | with_reducible exact H | (rw [hy738]; exact H) | exact H
         have Ny738 := zA hy738
         clear hy738
         have H' := zA H
         clear H
         go_wp2_with (first | ((with_reducible refine gate_callee (f := 182) rfl ?_); refine goesL_ (some 52) rfl rfl Try.func182 zq12 rfl #[.pointer (some ⟨g, 0, none⟩)] rfl zq2 ?_; (with_reducible refine (spec_l1drawByte.calls g s0_0 x1001_1 t730 t731 w0 _ ?side1 ?side2 A20.out).mono ?_); (case side1 => repeat (first | (with_reducible first | exact HI0.out | apply IsS168.alloc | apply IsS168.drewN | apply IsS168.drew | apply IsS168.set_1) | exact HI0.out)); (case side2 => repeat (first | (with_reducible first | exact HB.out | apply below_alloc | apply pw_below_drewN | apply below_drew1 | refine below_set ?_ (IsS168.ge HI0.out)) | exact HB.out)); rintro e w30 ⟨rfl, hi, hb, hk⟩; refine ⟨_, rfl, ?_⟩; have n0_ := zA (Kd.R_mono (Kd.R_keep (IsS168.apart (show IsS168 w0 _ g s0_0 x1001_1 from by repeat (first | (with_reducible first | exact HI0.out | apply IsS168.alloc | apply IsS168.drewN | apply IsS168.drew | apply IsS168.set_1) | exact HI0.out)) zq11 zq13) hk (fun _ h => h.2)) (fun _ h => h.1)); have n1_ := zA (KeepBut.trans zq1 hk (.inl rfl)); have n2_ := zA (hb); have n3_ := zA (hi); clear HO_4; clear HK; clear HB; clear HI0; have HO_4 := n0_; have HK := n1_; have HB := n2_; have HI0 := n3_; clear n0_ n1_ n2_ n3_; (try clear hb); (try clear hb2); (try clear hk); (try clear hi)) | ((with_reducible refine gate_builtin (b := .append) (xs := #[.tmp 59, .tmp 62]) rfl ?_); at_builtin; refine Kd.R_append (Kd.int .u8) w.heap.size rfl (.tmp 59) (.tmp 62) 33 5 (.int .u8 0) 1 rfl Try.underlying33 info5 rfl zq13 zq3 u4 x4_1 ((t730) % 256) [.int .u8 ((t730) % 256)] (fun _ => True) (fun _ => False) rfl rfl ?aP (fun _ hk => hk.elim) ?aF ?aO (Below.refl _ _) ?aS ?aL ?_; (case aP => exact rfl); (case aF => exact (fun _ _ => trivial)); (case aO => exact zq11); (case aS => exact (keep_size (w := w) (g := g) (row := none) zq1)); (case aL => have := LMc29.out; omega); intro v739 w31 ho hb hg hat; rw [← Ny738.out] at ho; have n0_ := zA (IsS168.grown zq5 hg (IsS168.own_ne HI0.out HO_4.out zq13)); have n1_ := zA (below_weaken (by repeat (first | (with_reducible first | exact HB.out | apply below_alloc | apply pw_below_drewN | apply below_drew1 | refine below_set ?_ (IsS168.ge HI0.out)) | exact HB.out)) HL.out hb); have n2_ := zA (KeepBut.trans zq1 (KeepBut.of_grown hg g) (Kd.R_base2 HO_4.out)); have n3_ := zA (ho); clear HI0; clear HB; clear HK; clear HO_4; have HI0 := n0_; have HB := n1_; have HK := n2_; have HO740 := n3_; clear n0_ n1_ n2_ n3_; clear ho hb hg hat))
         go_roundg k1
         case measure => have := HK1.out; omega
         case rel => exact ⟨(y738), (wrap64 (x9_1 + 1)), (t731), zq6, H', ⟨zq39⟩, ⟨by (with_reducible repeat (first | apply Kd.R_alloc | apply Kd.R_drewN | apply Kd.R_drew)); exact HO740.out⟩, ⟨zq5⟩, ⟨zq1⟩, ⟨by repeat (first | (with_reducible first | exact HB.out | apply below_alloc | apply pw_below_drewN | apply below_drew1 | refine below_set ?_ (IsS168.ge HI0.out)) | exact HB.out)⟩⟩
        ·rw [if_neg c29] at H
         exact absurd H zq14
     ·rw [if_neg c19] at H
      have c19b0 : decide (x9_1 < (Int.tmod t728 5)) = false := decide_eq_false c19
      clear c19
      simp only [Option.some.injEq, Prod.mk.injEq] at H
      obtain ⟨rfl, rfl⟩ := H
      go_wp2
      go_ret
      exact ⟨_, zq9, zq11, zq5, by repeat (first | (with_reducible first | exact HB.out | apply below_alloc | apply pw_below_drewN | apply below_drew1 | refine below_set ?_ (IsS168.ge HI0.out)) | exact HB.out), zq1⟩
  ·rw [if_neg c15] at H
   have c15b0 : ((Int.tmod t716 8) == 3) = false := beq_eq_false_iff_ne.mpr c15
   have c15b1 : ((Int.tmod t716 8) != 3) = true := bne_iff_ne.mpr c15
   replace H := Option.bind_eq_some_iff.mp H
   obtain ⟨⟨t741, t742⟩, A320, H⟩ := H
   replace H : ((spec_l4word.f t741).bind fun t743 => (if ([] : List Int).length + t743.size < 140737488355328 then ((some (([] : List Int) ++ bytesOf t743 : List Int)).bind fun y744 => (if (Int.tmod t716 8) < 6 then ((spec_l1rd_next.f s0_0 t742).bind fun bt747 => (if (Int.tmod (wrap64 (Int.tdiv t741 10)) 2) = 1 then (if y744.length < 140737488355328 then ((some (y744 ++ [32] : List Int)).bind fun y749 => ((spec_l4word.f bt747.1).bind fun t752 => (if y749.length + t752.size < 140737488355328 then ((some (y749 ++ bytesOf t752 : List Int)).bind fun y753 => (if (Int.tmod t716 8) = 7 then (if y753.length < 140737488355328 then (some ((y753 ++ [(wrap64 (48 + (Int.tmod (wrap64 (Int.tdiv t741 10)) 10))) % 256]), bt747.2)) else (none)) else (some (y753, bt747.2)))) else (none)))) else (none)) else ((spec_l4word.f bt747.1).bind fun t759 => (if y744.length + t759.size < 140737488355328 then ((some (y744 ++ bytesOf t759 : List Int)).bind fun y760 => (if (Int.tmod t716 8) = 7 then (if y760.length < 140737488355328 then (some ((y760 ++ [(wrap64 (48 + (Int.tmod (wrap64 (Int.tdiv t741 10)) 10))) % 256]), bt747.2)) else (none)) else (some (y760, bt747.2)))) else (none))))) else (if (Int.tmod t716 8) = 7 then (if y744.length < 140737488355328 then (some ((y744 ++ [(wrap64 (48 + (Int.tmod t741 10))) % 256]), t742)) else (none)) else (some (y744, t742))))) else (none))) = some (r1, r2) := H
   have A32 := zA A320
   clear A320
   replace H := Option.bind_eq_some_iff.mp H
   obtain ⟨t743, A330, H⟩ := H
   replace H : (if ([] : List Int).length + t743.size < 140737488355328 then ((some (([] : List Int) ++ bytesOf t743 : List Int)).bind fun y744 => (if (Int.tmod t716 8) < 6 then ((spec_l1rd_next.f s0_0 t742).bind fun bt747 => (if (Int.tmod (wrap64 (Int.tdiv t741 10)) 2) = 1 then (if y744.length < 140737488355328 then ((some (y744 ++ [32] : List Int)).bind fun y749 => ((spec_l4word.f bt747.1).bind fun t752 => (if y749.length + t752.size < 140737488355328 then ((some (y749 ++ bytesOf t752 : List Int)).bind fun y753 => (if (Int.tmod t716 8) = 7 then (if y753.length < 140737488355328 then (some ((y753 ++ [(wrap64 (48 + (Int.tmod (wrap64 (Int.tdiv t741 10)) 10))) % 256]), bt747.2)) else (none)) else (some (y753, bt747.2)))) else (none)))) else (none)) else ((spec_l4word.f bt747.1).bind fun t759 => (if y744.length + t759.size < 140737488355328 then ((some (y744 ++ bytesOf t759 : List Int)).bind fun y760 => (if (Int.tmod t716 8) = 7 then (if y760.length < 140737488355328 then (some ((y760 ++ [(wrap64 (48 + (Int.tmod (wrap64 (Int.tdiv t741 10)) 10))) % 256]), bt747.2)) else (none)) else (some (y760, bt747.2)))) else (none))))) else (if (Int.tmod t716 8) = 7 then (if y744.length < 140737488355328 then (some ((y744 ++ [(wrap64 (48 + (Int.tmod t741 10))) % 256]), t742)) else (none)) else (some (y744, t742))))) else (none)) = some (r1, r2) := H
   have A33 := zA A330
   clear A330
   by_cases c34 : ([] : List Int).length + t743.size < 140737488355328
   ·rw [if_pos c34] at H
    have LMc34 := zA c34
    clear c34
    obtain ⟨y744, hy744⟩ : ∃ y_ : List Int, y_ = (([] : List Int) ++ bytesOf t743) := ⟨_, rfl⟩
    replace H : (if (Int.tmod t716 8) < 6 then ((spec_l1rd_next.f s0_0 t742).bind fun bt747 => (if (Int.tmod (wrap64 (Int.tdiv t741 10)) 2) = 1 then (if y744.length < 140737488355328 then ((some (y744 ++ [32] : List Int)).bind fun y749 => ((spec_l4word.f bt747.1).bind fun t752 => (if y749.length + t752.size < 140737488355328 then ((some (y749 ++ bytesOf t752 : List Int)).bind fun y753 => (if (Int.tmod t716 8) = 7 then (if y753.length < 140737488355328 then (some ((y753 ++ [(wrap64 (48 + (Int.tmod (wrap64 (Int.tdiv t741 10)) 10))) % 256]), bt747.2)) else (none)) else (some (y753, bt747.2)))) else (none)))) else (none)) else ((spec_l4word.f bt747.1).bind fun t759 => (if y744.length + t759.size < 140737488355328 then ((some (y744 ++ bytesOf t759 : List Int)).bind fun y760 => (if (Int.tmod t716 8) = 7 then (if y760.length < 140737488355328 then (some ((y760 ++ [(wrap64 (48 + (Int.tmod (wrap64 (Int.tdiv t741 10)) 10))) % 256]), bt747.2)) else (none)) else (some (y760, bt747.2)))) else (none))))) else (if (Int.tmod t716 8) = 7 then (if y744.length < 140737488355328 then (some ((y744 ++ [(wrap64 (48 + (Int.tmod t741 10))) % 256]), t742)) else (none)) else (some (y744, t742)))) = some (r1, r2) := by first | (rw [hy744]; with_reducible exact H) | (have H2_ := (Option.bind_some _ _).symm.trans H; rw [hy744]; with_reducible exact H2_) | (have H2_ := (Option.bind_some _ _).symm.trans H; with_reducible exact H2_) | with_reducible exact H | (rw [hy744]; exact H) | exact H
    have Ny744 := zA hy744
    clear hy744
    by_cases c35 : (Int.tmod t716 8) < 6
    ·rw [if_pos c35] at H
     have c35b0 : decide ((Int.tmod t716 8) < 6) = true := decide_eq_true c35
     clear c35
     replace H := Option.bind_eq_some_iff.mp H
     obtain ⟨⟨t747, t748⟩, A360, H⟩ := H
     replace H : (if (Int.tmod (wrap64 (Int.tdiv t741 10)) 2) = 1 then (if y744.length < 140737488355328 then ((some (y744 ++ [32] : List Int)).bind fun y749 => ((spec_l4word.f t747).bind fun t752 => (if y749.length + t752.size < 140737488355328 then ((some (y749 ++ bytesOf t752 : List Int)).bind fun y753 => (if (Int.tmod t716 8) = 7 then (if y753.length < 140737488355328 then (some ((y753 ++ [(wrap64 (48 + (Int.tmod (wrap64 (Int.tdiv t741 10)) 10))) % 256]), t748)) else (none)) else (some (y753, t748)))) else (none)))) else (none)) else ((spec_l4word.f t747).bind fun t759 => (if y744.length + t759.size < 140737488355328 then ((some (y744 ++ bytesOf t759 : List Int)).bind fun y760 => (if (Int.tmod t716 8) = 7 then (if y760.length < 140737488355328 then (some ((y760 ++ [(wrap64 (48 + (Int.tmod (wrap64 (Int.tdiv t741 10)) 10))) % 256]), t748)) else (none)) else (some (y760, t748)))) else (none)))) = some (r1, r2) := H
     have A36 := zA A360
     clear A360
     by_cases c37 : (Int.tmod (wrap64 (Int.tdiv t741 10)) 2) = 1
     ·rw [if_pos c37] at H
      have c37b0 : ((Int.tmod (wrap64 (Int.tdiv t741 10)) 2) == 1) = true := beq_iff_eq.mpr c37
      have c37b1 : ((Int.tmod (wrap64 (Int.tdiv t741 10)) 2) != 1) = false := bne_eq_false_iff_eq.mpr c37
      clear c37
      by_cases c38 : y744.length < 140737488355328
      ·rw [if_pos c38] at H
       have LMc38 := zA c38
       clear c38
       obtain ⟨y749, hy749⟩ : ∃ y_ : List Int, y_ = (y744 ++ [32]) := ⟨_, rfl⟩
       replace H : ((spec_l4word.f t747).bind fun t752 => (if y749.length + t752.size < 140737488355328 then ((some (y749 ++ bytesOf t752 : List Int)).bind fun y753 => (if (Int.tmod t716 8) = 7 then (if y753.length < 140737488355328 then (some ((y753 ++ [(wrap64 (48 + (Int.tmod (wrap64 (Int.tdiv t741 10)) 10))) % 256]), t748)) else (none)) else (some (y753, t748)))) else (none))) = some (r1, r2) := by first | (rw [hy749]; with_reducible exact H) | (have H2_ := (Option.bind_some _ _).symm.trans H; rw [hy749]; with_reducible exact H2_) | (have H2_ := (Option.bind_some _ _).symm.trans H; with_reducible exact H2_) | with_reducible exact H | (rw [hy749]; exact H) | exact H
       have Ny749 := zA hy749
       clear hy749
       replace H := Option.bind_eq_some_iff.mp H
       obtain ⟨t752, A390, H⟩ := H
       replace H : (if y749.length + t752.size < 140737488355328 then ((some (y749 ++ bytesOf t752 : List Int)).bind fun y753 => (if (Int.tmod t716 8) = 7 then (if y753.length < 140737488355328 then (some ((y753 ++ [(wrap64 (48 + (Int.tmod (wrap64 (Int.tdiv t741 10)) 10))) % 256]), t748)) else (none)) else (some (y753, t748)))) else (none)) = some (r1, r2) := H
       have A39 := zA A390
       clear A390
       by_cases c40 : y749.length + t752.size < 140737488355328
       ·rw [if_pos c40] at H
        have LMc40 := zA c40
        clear c40
        obtain ⟨y753, hy753⟩ : ∃ y_ : List Int, y_ = (y749 ++ bytesOf t752) := ⟨_, rfl⟩
        replace H : (if (Int.tmod t716 8) = 7 then (if y753.length < 140737488355328 then (some ((y753 ++ [(wrap64 (48 + (Int.tmod (wrap64 (Int.tdiv t741 10)) 10))) % 256]), t748)) else (none)) else (some (y753, t748))) = some (r1, r2) := by first | (rw [hy753]; with_reducible exact H) | (have H2_ := (Option.bind_some _ _).symm.trans H; rw [hy753]; with_reducible exact H2_) | (have H2_ := (Option.bind_some _ _).symm.trans H; with_reducible exact H2_) | with_reducible exact H | (rw [hy753]; exact H) | exact H
        have Ny753 := zA hy753
        clear hy753
        by_cases c41 : (Int.tmod t716 8) = 7
        ·rw [if_pos c41] at H
         have c41b0 : ((Int.tmod t716 8) == 7) = true := beq_iff_eq.mpr c41
         have c41b1 : ((Int.tmod t716 8) != 7) = false := bne_eq_false_iff_eq.mpr c41
         clear c41
         by_cases c42 : y753.length < 140737488355328
         ·rw [if_pos c42] at H
          have LMc42 := zA c42
          clear c42
          obtain ⟨y756, hy756⟩ : ∃ y_ : List Int, y_ = (y753 ++ [(wrap64 (48 + (Int.tmod (wrap64 (Int.tdiv t741 10)) 10))) % 256]) := ⟨_, rfl⟩
          replace H : (some (y756, t748)) = some (r1, r2) := by first | (rw [hy756]; with_reducible exact H) | (have H2_ := (Option.bind_some _ _).symm.trans H; rw [hy756]; with_reducible exact H2_) | (have H2_ := (Option.bind_some _ _).symm.trans H; with_reducible exact H2_) | with_reducible exact H | (rw [hy756]; exact H) | exact H
          have Ny756 := zA hy756
          clear hy756
          simp only [Option.some.injEq, Prod.mk.injEq] at H
          obtain ⟨rfl, rfl⟩ := H
          go_enter Try.func174, Try.ntmps174
          go_wp2_with (first | ((with_reducible refine gate_callee (f := 116) rfl ?_); refine goesL_ (some 14) rfl rfl Try.func116 zq12 rfl #[.pointer (some ⟨g, 0, none⟩)] rfl zq2 ?_; (with_reducible refine (spec_l1rd_next.calls g s0_0 s0_1 t716 t717 w0 _ ?side1 ?side2 A2.out).mono ?_); (case side1 => repeat (first | (with_reducible first | exact HI0.out | apply IsS168.alloc | apply IsS168.drewN | apply IsS168.drew | apply IsS168.set_1) | exact HI0.out)); (case side2 => repeat (first | (with_reducible first | exact HB.out | apply below_alloc | apply pw_below_drewN | apply below_drew1 | refine below_set ?_ (IsS168.ge HI0.out)) | exact HB.out)); rintro e w43 ⟨rfl, hi, hb, hk⟩; refine ⟨_, rfl, ?_⟩; have n0_ := zA (KeepBut.trans zq1 hk (.inl rfl)); have n1_ := zA (hb); have n2_ := zA (hi); clear HK; clear HB; clear HI0; have HK := n0_; have HB := n1_; have HI0 := n2_; clear n0_ n1_ n2_; (try clear hb); (try clear hb2); (try clear hk); (try clear hi)) | ((with_reducible refine gate_callee (f := 116) rfl ?_); refine goesL_ (some 66) rfl rfl Try.func116 zq12 rfl #[.pointer (some ⟨g, 0, none⟩)] rfl zq2 ?_; (with_reducible refine (spec_l1rd_next.calls g s0_0 t717 t741 t742 w0 _ ?side1 ?side2 A32.out).mono ?_); (case side1 => repeat (first | (with_reducible first | exact HI0.out | apply IsS168.alloc | apply IsS168.drewN | apply IsS168.drew | apply IsS168.set_1) | exact HI0.out)); (case side2 => repeat (first | (with_reducible first | exact HB.out | apply below_alloc | apply pw_below_drewN | apply below_drew1 | refine below_set ?_ (IsS168.ge HI0.out)) | exact HB.out)); rintro e w44 ⟨rfl, hi, hb, hk⟩; refine ⟨_, rfl, ?_⟩; have n0_ := zA (KeepBut.trans zq1 hk (.inl rfl)); have n1_ := zA (hb); have n2_ := zA (hi); clear HK; clear HB; clear HI0; have HK := n0_; have HB := n1_; have HI0 := n2_; clear n0_ n1_ n2_; (try clear hb); (try clear hb2); (try clear hk); (try clear hi)) | ((with_reducible refine gate_callee (f := 183) rfl ?_); refine goesL_ (some 69) rfl rfl Try.func183 zq12 rfl #[.int .i64 t741] rfl zq2 ?_; (with_reducible refine (spec_l4word.calls t741 t743 _ A33.out).mono ?_); rintro e w' ⟨rfl, ⟨nd, rfl⟩⟩; refine ⟨_, rfl, ?_⟩) | (at_builtin; refine print_append_str w.heap.size rfl (.tmp 67) _ 33 9 5 rfl Try.underlying33 Try.underlying9 info5 (.slice none 0 0) ([] : List Int) t743 rfl rfl ?aO (Below.refl _ _) ?aS ?aL ?_; (case aO => exact (Kd.own_of_R (enc := fun n => Value.int .u8 n) (h1 := fun _ => rfl) (ok := fun _ => True) (Kd.R_nil (Kd.int .u8) _ _ _ _))); (case aS => exact (keep_size (w := w) (g := g) (row := none) zq1)); (case aL => have := LMc34.out; omega); intro v745 w45 ho0 hb hg; have ho := Kd.R_of_own (h1 := fun _ => rfl) (ok := fun _ => True) ho0 (fun _ _ => trivial); clear ho0; have hat := True.intro; rw [← Ny744.out] at ho; change Kd.R (Kd.int .u8) 5 w45 w.heap.size (fun _ => True) v745 y744 at ho; have n0_ := zA (IsS168.grown zq5 hg zq26); have n1_ := zA (below_weaken (by repeat (first | (with_reducible first | exact HB.out | apply below_alloc | apply pw_below_drewN | apply below_drew1 | refine below_set ?_ (IsS168.ge HI0.out)) | exact HB.out)) HL.out hb); have n2_ := zA (KeepBut.trans zq1 (KeepBut.of_grown hg g) (.inl zq26)); have n3_ := zA (ho); clear HI0; clear HB; clear HK; have HI0 := n0_; have HB := n1_; have HK := n2_; have HO746 := n3_; clear n0_ n1_ n2_ n3_; clear ho hb hg hat) | ((with_reducible refine gate_callee (f := 116) rfl ?_); refine goesL_ (some 76) rfl rfl Try.func116 zq12 rfl #[.pointer (some ⟨g, 0, none⟩)] rfl zq2 ?_; (with_reducible refine (spec_l1rd_next.calls g s0_0 t742 t747 t748 w0 _ ?side1 ?side2 A36.out).mono ?_); (case side1 => repeat (first | (with_reducible first | exact HI0.out | apply IsS168.alloc | apply IsS168.drewN | apply IsS168.drew | apply IsS168.set_1) | exact HI0.out)); (case side2 => repeat (first | (with_reducible first | exact HB.out | apply below_alloc | apply pw_below_drewN | apply below_drew1 | refine below_set ?_ (IsS168.ge HI0.out)) | exact HB.out)); rintro e w46 ⟨rfl, hi, hb, hk⟩; refine ⟨_, rfl, ?_⟩; have n0_ := zA (Kd.R_mono (Kd.R_keep (IsS168.apart (show IsS168 w0 _ g s0_0 t742 from by repeat (first | (with_reducible first | exact HI0.out | apply IsS168.alloc | apply IsS168.drewN | apply IsS168.drew | apply IsS168.set_1) | exact HI0.out)) zq20 zq13) hk (fun _ h => h.2)) (fun _ h => h.1)); have n1_ := zA (KeepBut.trans zq1 hk (.inl rfl)); have n2_ := zA (hb); have n3_ := zA (hi); clear HO746; clear HK; clear HB; clear HI0; have HO746 := n0_; have HK := n1_; have HB := n2_; have HI0 := n3_; clear n0_ n1_ n2_ n3_; (try clear hb); (try clear hb2); (try clear hk); (try clear hi)) | ((with_reducible refine gate_builtin (b := .append) (xs := #[.tmp 80, .tmp 81]) rfl ?_); at_builtin; refine Kd.R_append (Kd.int .u8) w.heap.size rfl (.tmp 80) (.tmp 81) 33 5 (.int .u8 0) 1 rfl Try.underlying33 info5 rfl zq13 zq3 v745 y744 32 [.int .u8 32] (fun _ => True) (fun _ => False) rfl rfl ?aP (fun _ hk => hk.elim) ?aF ?aO (Below.refl _ _) ?aS ?aL ?_; (case aP => exact rfl); (case aF => exact (fun _ _ => trivial)); (case aO => exact zq20); (case aS => exact (keep_size (w := w) (g := g) (row := none) zq1)); (case aL => have := LMc38.out; omega); intro v750 w47 ho hb hg hat; rw [← Ny749.out] at ho; have n0_ := zA (IsS168.grown zq5 hg (IsS168.own_ne HI0.out HO746.out zq13)); have n1_ := zA (below_weaken (by repeat (first | (with_reducible first | exact HB.out | apply below_alloc | apply pw_below_drewN | apply below_drew1 | refine below_set ?_ (IsS168.ge HI0.out)) | exact HB.out)) HL.out hb); have n2_ := zA (KeepBut.trans zq1 (KeepBut.of_grown hg g) (Kd.R_base2 HO746.out)); have n3_ := zA (ho); clear HI0; clear HB; clear HK; clear HO746; have HI0 := n0_; have HB := n1_; have HK := n2_; have HO751 := n3_; clear n0_ n1_ n2_ n3_; clear ho hb hg hat) | ((with_reducible refine gate_callee (f := 183) rfl ?_); refine goesL_ (some 85) rfl rfl Try.func183 zq12 rfl #[.int .i64 t747] rfl zq2 ?_; (with_reducible refine (spec_l4word.calls t747 t752 _ A39.out).mono ?_); rintro e w' ⟨rfl, ⟨nd, rfl⟩⟩; refine ⟨_, rfl, ?_⟩) | (at_builtin; refine print_append_str w.heap.size rfl (.tmp 83) _ 33 9 5 rfl Try.underlying33 Try.underlying9 info5 v750 y749 t752 rfl rfl ?aO (Below.refl _ _) ?aS ?aL ?_; (case aO => exact (Kd.own_of_R (by (with_reducible repeat (first | apply Kd.R_alloc | apply Kd.R_drewN | apply Kd.R_drew)); exact HO751.out))); (case aS => exact (keep_size (w := w) (g := g) (row := none) zq1)); (case aL => have := LMc40.out; omega); intro v754 w48 ho0 hb hg; have ho := Kd.R_of_own (h1 := fun _ => rfl) (ok := fun _ => True) ho0 (fun _ _ => trivial); clear ho0; have hat := True.intro; rw [← Ny753.out] at ho; change Kd.R (Kd.int .u8) 5 w48 w.heap.size (fun _ => True) v754 y753 at ho; have n0_ := zA (IsS168.grown zq5 hg (IsS168.own_ne HI0.out HO751.out zq13)); have n1_ := zA (below_weaken (by repeat (first | (with_reducible first | exact HB.out | apply below_alloc | apply pw_below_drewN | apply below_drew1 | refine below_set ?_ (IsS168.ge HI0.out)) | exact HB.out)) HL.out hb); have n2_ := zA (KeepBut.trans zq1 (KeepBut.of_grown hg g) (Kd.R_base2 HO751.out)); have n3_ := zA (ho); clear HI0; clear HB; clear HK; clear HO751; have HI0 := n0_; have HB := n1_; have HK := n2_; have HO755 := n3_; clear n0_ n1_ n2_ n3_; clear ho hb hg hat) | ((with_reducible refine gate_builtin (b := .append) (xs := #[.tmp 89, .tmp 94]) rfl ?_); at_builtin; refine Kd.R_append (Kd.int .u8) w.heap.size rfl (.tmp 89) (.tmp 94) 33 5 (.int .u8 0) 1 rfl Try.underlying33 info5 rfl zq13 zq3 v754 y753 ((wrap64 (48 + (Int.tmod (wrap64 (Int.tdiv t741 10)) 10))) % 256) [.int .u8 ((wrap64 (48 + (Int.tmod (wrap64 (Int.tdiv t741 10)) 10))) % 256)] (fun _ => True) (fun _ => False) rfl rfl ?aP (fun _ hk => hk.elim) ?aF ?aO (Below.refl _ _) ?aS ?aL ?_; (case aP => exact rfl); (case aF => exact (fun _ _ => trivial)); (case aO => exact (by (with_reducible repeat (first | apply Kd.R_alloc | apply Kd.R_drewN | apply Kd.R_drew)); exact HO755.out)); (case aS => exact (keep_size (w := w) (g := g) (row := none) zq1)); (case aL => have := LMc42.out; omega); intro v757 w49 ho hb hg hat; rw [← Ny756.out] at ho; have n0_ := zA (IsS168.grown zq5 hg (IsS168.own_ne HI0.out HO755.out zq13)); have n1_ := zA (below_weaken (by repeat (first | (with_reducible first | exact HB.out | apply below_alloc | apply pw_below_drewN | apply below_drew1 | refine below_set ?_ (IsS168.ge HI0.out)) | exact HB.out)) HL.out hb); have n2_ := zA (KeepBut.trans zq1 (KeepBut.of_grown hg g) (Kd.R_base2 HO755.out)); have n3_ := zA (ho); clear HI0; clear HB; clear HK; clear HO755; have HI0 := n0_; have HB := n1_; have HK := n2_; have HO758 := n3_; clear n0_ n1_ n2_ n3_; clear ho hb hg hat))
          go_ret
          exact ⟨_, zq9, by (with_reducible repeat (first | apply Kd.R_alloc | apply Kd.R_drewN | apply Kd.R_drew)); exact HO758.out, zq5, by repeat (first | (with_reducible first | exact HB.out | apply below_alloc | apply pw_below_drewN | apply below_drew1 | refine below_set ?_ (IsS168.ge HI0.out)) | exact HB.out), zq1⟩
         ·rw [if_neg c42] at H
          exact absurd H zq14
        ·rw [if_neg c41] at H
         have c41b0 : ((Int.tmod t716 8) == 7) = false := beq_eq_false_iff_ne.mpr c41
         have c41b1 : ((Int.tmod t716 8) != 7) = true := bne_iff_ne.mpr c41
         simp only [Option.some.injEq, Prod.mk.injEq] at H
         obtain ⟨rfl, rfl⟩ := H
         go_enter Try.func174, Try.ntmps174
         go_wp2_with (first | ((with_reducible refine gate_callee (f := 116) rfl ?_); refine goesL_ (some 14) rfl rfl Try.func116 zq12 rfl #[.pointer (some ⟨g, 0, none⟩)] rfl zq2 ?_; (with_reducible refine (spec_l1rd_next.calls g s0_0 s0_1 t716 t717 w0 _ ?side1 ?side2 A2.out).mono ?_); (case side1 => repeat (first | (with_reducible first | exact HI0.out | apply IsS168.alloc | apply IsS168.drewN | apply IsS168.drew | apply IsS168.set_1) | exact HI0.out)); (case side2 => repeat (first | (with_reducible first | exact HB.out | apply below_alloc | apply pw_below_drewN | apply below_drew1 | refine below_set ?_ (IsS168.ge HI0.out)) | exact HB.out)); rintro e w50 ⟨rfl, hi, hb, hk⟩; refine ⟨_, rfl, ?_⟩; have n0_ := zA (KeepBut.trans zq1 hk (.inl rfl)); have n1_ := zA (hb); have n2_ := zA (hi); clear HK; clear HB; clear HI0; have HK := n0_; have HB := n1_; have HI0 := n2_; clear n0_ n1_ n2_; (try clear hb); (try clear hb2); (try clear hk); (try clear hi)) | ((with_reducible refine gate_callee (f := 116) rfl ?_); refine goesL_ (some 66) rfl rfl Try.func116 zq12 rfl #[.pointer (some ⟨g, 0, none⟩)] rfl zq2 ?_; (with_reducible refine (spec_l1rd_next.calls g s0_0 t717 t741 t742 w0 _ ?side1 ?side2 A32.out).mono ?_); (case side1 => repeat (first | (with_reducible first | exact HI0.out | apply IsS168.alloc | apply IsS168.drewN | apply IsS168.drew | apply IsS168.set_1) | exact HI0.out)); (case side2 => repeat (first | (with_reducible first | exact HB.out | apply below_alloc | apply pw_below_drewN | apply below_drew1 | refine below_set ?_ (IsS168.ge HI0.out)) | exact HB.out)); rintro e w51 ⟨rfl, hi, hb, hk⟩; refine ⟨_, rfl, ?_⟩; have n0_ := zA (KeepBut.trans zq1 hk (.inl rfl)); have n1_ := zA (hb); have n2_ := zA (hi); clear HK; clear HB; clear HI0; have HK := n0_; have HB := n1_; have HI0 := n2_; clear n0_ n1_ n2_; (try clear hb); (try clear hb2); (try clear hk); (try clear hi)) | ((with_reducible refine gate_callee (f := 183) rfl ?_); refine goesL_ (some 69) rfl rfl Try.func183 zq12 rfl #[.int .i64 t741] rfl zq2 ?_; (with_reducible refine (spec_l4word.calls t741 t743 _ A33.out).mono ?_); rintro e w' ⟨rfl, ⟨nd, rfl⟩⟩; refine ⟨_, rfl, ?_⟩) | (at_builtin; refine print_append_str w.heap.size rfl (.tmp 67) _ 33 9 5 rfl Try.underlying33 Try.underlying9 info5 (.slice none 0 0) ([] : List Int) t743 rfl rfl ?aO (Below.refl _ _) ?aS ?aL ?_; (case aO => exact (Kd.own_of_R (enc := fun n => Value.int .u8 n) (h1 := fun _ => rfl) (ok := fun _ => True) (Kd.R_nil (Kd.int .u8) _ _ _ _))); (case aS => exact (keep_size (w := w) (g := g) (row := none) zq1)); (case aL => have := LMc34.out; omega); intro v745 w52 ho0 hb hg; have ho := Kd.R_of_own (h1 := fun _ => rfl) (ok := fun _ => True) ho0 (fun _ _ => trivial); clear ho0; have hat := True.intro; rw [← Ny744.out] at ho; change Kd.R (Kd.int .u8) 5 w52 w.heap.size (fun _ => True) v745 y744 at ho; have n0_ := zA (IsS168.grown zq5 hg zq26); have n1_ := zA (below_weaken (by repeat (first | (with_reducible first | exact HB.out | apply below_alloc | apply pw_below_drewN | apply below_drew1 | refine below_set ?_ (IsS168.ge HI0.out)) | exact HB.out)) HL.out hb); have n2_ := zA (KeepBut.trans zq1 (KeepBut.of_grown hg g) (.inl zq26)); have n3_ := zA (ho); clear HI0; clear HB; clear HK; have HI0 := n0_; have HB := n1_; have HK := n2_; have HO746 := n3_; clear n0_ n1_ n2_ n3_; clear ho hb hg hat) | ((with_reducible refine gate_callee (f := 116) rfl ?_); refine goesL_ (some 76) rfl rfl Try.func116 zq12 rfl #[.pointer (some ⟨g, 0, none⟩)] rfl zq2 ?_; (with_reducible refine (spec_l1rd_next.calls g s0_0 t742 t747 t748 w0 _ ?side1 ?side2 A36.out).mono ?_); (case side1 => repeat (first | (with_reducible first | exact HI0.out | apply IsS168.alloc | apply IsS168.drewN | apply IsS168.drew | apply IsS168.set_1) | exact HI0.out)); (case side2 => repeat (first | (with_reducible first | exact HB.out | apply below_alloc | apply pw_below_drewN | apply below_drew1 | refine below_set ?_ (IsS168.ge HI0.out)) | exact HB.out)); rintro e w53 ⟨rfl, hi, hb, hk⟩; refine ⟨_, rfl, ?_⟩; have n0_ := zA (Kd.R_mono (Kd.R_keep (IsS168.apart (show IsS168 w0 _ g s0_0 t742 from by repeat (first | (with_reducible first | exact HI0.out | apply IsS168.alloc | apply IsS168.drewN | apply IsS168.drew | apply IsS168.set_1) | exact HI0.out)) zq20 zq13) hk (fun _ h => h.2)) (fun _ h => h.1)); have n1_ := zA (KeepBut.trans zq1 hk (.inl rfl)); have n2_ := zA (hb); have n3_ := zA (hi); clear HO746; clear HK; clear HB; clear HI0; have HO746 := n0_; have HK := n1_; have HB := n2_; have HI0 := n3_; clear n0_ n1_ n2_ n3_; (try clear hb); (try clear hb2); (try clear hk); (try clear hi)) | ((with_reducible refine gate_builtin (b := .append) (xs := #[.tmp 80, .tmp 81]) rfl ?_); at_builtin; refine Kd.R_append (Kd.int .u8) w.heap.size rfl (.tmp 80) (.tmp 81) 33 5 (.int .u8 0) 1 rfl Try.underlying33 info5 rfl zq13 zq3 v745 y744 32 [.int .u8 32] (fun _ => True) (fun _ => False) rfl rfl ?aP (fun _ hk => hk.elim) ?aF ?aO (Below.refl _ _) ?aS ?aL ?_; (case aP => exact rfl); (case aF => exact (fun _ _ => trivial)); (case aO => exact zq20); (case aS => exact (keep_size (w := w) (g := g) (row := none) zq1)); (case aL => have := LMc38.out; omega); intro v750 w54 ho hb hg hat; rw [← Ny749.out] at ho; have n0_ := zA (IsS168.grown zq5 hg (IsS168.own_ne HI0.out HO746.out zq13)); have n1_ := zA (below_weaken (by repeat (first | (with_reducible first | exact HB.out | apply below_alloc | apply pw_below_drewN | apply below_drew1 | refine below_set ?_ (IsS168.ge HI0.out)) | exact HB.out)) HL.out hb); have n2_ := zA (KeepBut.trans zq1 (KeepBut.of_grown hg g) (Kd.R_base2 HO746.out)); have n3_ := zA (ho); clear HI0; clear HB; clear HK; clear HO746; have HI0 := n0_; have HB := n1_; have HK := n2_; have HO751 := n3_; clear n0_ n1_ n2_ n3_; clear ho hb hg hat) | ((with_reducible refine gate_callee (f := 183) rfl ?_); refine goesL_ (some 85) rfl rfl Try.func183 zq12 rfl #[.int .i64 t747] rfl zq2 ?_; (with_reducible refine (spec_l4word.calls t747 t752 _ A39.out).mono ?_); rintro e w' ⟨rfl, ⟨nd, rfl⟩⟩; refine ⟨_, rfl, ?_⟩) | (at_builtin; refine print_append_str w.heap.size rfl (.tmp 83) _ 33 9 5 rfl Try.underlying33 Try.underlying9 info5 v750 y749 t752 rfl rfl ?aO (Below.refl _ _) ?aS ?aL ?_; (case aO => exact (Kd.own_of_R (by (with_reducible repeat (first | apply Kd.R_alloc | apply Kd.R_drewN | apply Kd.R_drew)); exact HO751.out))); (case aS => exact (keep_size (w := w) (g := g) (row := none) zq1)); (case aL => have := LMc40.out; omega); intro v754 w55 ho0 hb hg; have ho := Kd.R_of_own (h1 := fun _ => rfl) (ok := fun _ => True) ho0 (fun _ _ => trivial); clear ho0; have hat := True.intro; rw [← Ny753.out] at ho; change Kd.R (Kd.int .u8) 5 w55 w.heap.size (fun _ => True) v754 y753 at ho; have n0_ := zA (IsS168.grown zq5 hg (IsS168.own_ne HI0.out HO751.out zq13)); have n1_ := zA (below_weaken (by repeat (first | (with_reducible first | exact HB.out | apply below_alloc | apply pw_below_drewN | apply below_drew1 | refine below_set ?_ (IsS168.ge HI0.out)) | exact HB.out)) HL.out hb); have n2_ := zA (KeepBut.trans zq1 (KeepBut.of_grown hg g) (Kd.R_base2 HO751.out)); have n3_ := zA (ho); clear HI0; clear HB; clear HK; clear HO751; have HI0 := n0_; have HB := n1_; have HK := n2_; have HO755 := n3_; clear n0_ n1_ n2_ n3_; clear ho hb hg hat))
         go_ret
         exact ⟨_, zq9, by (with_reducible repeat (first | apply Kd.R_alloc | apply Kd.R_drewN | apply Kd.R_drew)); exact HO755.out, zq5, by repeat (first | (with_reducible first | exact HB.out | apply below_alloc | apply pw_below_drewN | apply below_drew1 | refine below_set ?_ (IsS168.ge HI0.out)) | exact HB.out), zq1⟩
       ·rw [if_neg c40] at H
        exact absurd H zq14
      ·rw [if_neg c38] at H
       exact absurd H zq14
     ·rw [if_neg c37] at H
      have c37b0 : ((Int.tmod (wrap64 (Int.tdiv t741 10)) 2) == 1) = false := beq_eq_false_iff_ne.mpr c37
      have c37b1 : ((Int.tmod (wrap64 (Int.tdiv t741 10)) 2) != 1) = true := bne_iff_ne.mpr c37
      replace H := Option.bind_eq_some_iff.mp H
      obtain ⟨t759, A560, H⟩ := H
      replace H : (if y744.length + t759.size < 140737488355328 then ((some (y744 ++ bytesOf t759 : List Int)).bind fun y760 => (if (Int.tmod t716 8) = 7 then (if y760.length < 140737488355328 then (some ((y760 ++ [(wrap64 (48 + (Int.tmod (wrap64 (Int.tdiv t741 10)) 10))) % 256]), t748)) else (none)) else (some (y760, t748)))) else (none)) = some (r1, r2) := H
      have A56 := zA A560
      clear A560
      by_cases c57 : y744.length + t759.size < 140737488355328
      ·rw [if_pos c57] at H
       have LMc57 := zA c57
       clear c57
       obtain ⟨y760, hy760⟩ : ∃ y_ : List Int, y_ = (y744 ++ bytesOf t759) := ⟨_, rfl⟩
       replace H : (if (Int.tmod t716 8) = 7 then (if y760.length < 140737488355328 then (some ((y760 ++ [(wrap64 (48 + (Int.tmod (wrap64 (Int.tdiv t741 10)) 10))) % 256]), t748)) else (none)) else (some (y760, t748))) = some (r1, r2) := by first | (rw [hy760]; with_reducible exact H) | (have H2_ := (Option.bind_some _ _).symm.trans H; rw [hy760]; with_reducible exact H2_) | (have H2_ := (Option.bind_some _ _).symm.trans H; with_reducible exact H2_) | with_reducible exact H | (rw [hy760]; exact H) | exact H
       have Ny760 := zA hy760
       clear hy760
       by_cases c58 : (Int.tmod t716 8) = 7
       ·rw [if_pos c58] at H
        have c58b0 : ((Int.tmod t716 8) == 7) = true := beq_iff_eq.mpr c58
        have c58b1 : ((Int.tmod t716 8) != 7) = false := bne_eq_false_iff_eq.mpr c58
        clear c58
        by_cases c59 : y760.length < 140737488355328
        ·rw [if_pos c59] at H
         have LMc59 := zA c59
         clear c59
         obtain ⟨y763, hy763⟩ : ∃ y_ : List Int, y_ = (y760 ++ [(wrap64 (48 + (Int.tmod (wrap64 (Int.tdiv t741 10)) 10))) % 256]) := ⟨_, rfl⟩
         replace H : (some (y763, t748)) = some (r1, r2) := by first | (rw [hy763]; with_reducible exact H) | (have H2_ := (Option.bind_some _ _).symm.trans H; rw [hy763]; with_reducible exact H2_) | (have H2_ := (Option.bind_some _ _).symm.trans H; with_reducible exact H2_) | with_reducible exact H | (rw [hy763]; exact H) | exact H
         have Ny763 := zA hy763
         clear hy763
         simp only [Option.some.injEq, Prod.mk.injEq] at H
         obtain ⟨rfl, rfl⟩ := H
         go_enter Try.func174, Try.ntmps174
         go_wp2_with (first | ((with_reducible refine gate_callee (f := 116) rfl ?_); refine goesL_ (some 14) rfl rfl Try.func116 zq12 rfl #[.pointer (some ⟨g, 0, none⟩)] rfl zq2 ?_; (with_reducible refine (spec_l1rd_next.calls g s0_0 s0_1 t716 t717 w0 _ ?side1 ?side2 A2.out).mono ?_); (case side1 => repeat (first | (with_reducible first | exact HI0.out | apply IsS168.alloc | apply IsS168.drewN | apply IsS168.drew | apply IsS168.set_1) | exact HI0.out)); (case side2 => repeat (first | (with_reducible first | exact HB.out | apply below_alloc | apply pw_below_drewN | apply below_drew1 | refine below_set ?_ (IsS168.ge HI0.out)) | exact HB.out)); rintro e w60 ⟨rfl, hi, hb, hk⟩; refine ⟨_, rfl, ?_⟩; have n0_ := zA (KeepBut.trans zq1 hk (.inl rfl)); have n1_ := zA (hb); have n2_ := zA (hi); clear HK; clear HB; clear HI0; have HK := n0_; have HB := n1_; have HI0 := n2_; clear n0_ n1_ n2_; (try clear hb); (try clear hb2); (try clear hk); (try clear hi)) | ((with_reducible refine gate_callee (f := 116) rfl ?_); refine goesL_ (some 66) rfl rfl Try.func116 zq12 rfl #[.pointer (some ⟨g, 0, none⟩)] rfl zq2 ?_; (with_reducible refine (spec_l1rd_next.calls g s0_0 t717 t741 t742 w0 _ ?side1 ?side2 A32.out).mono ?_); (case side1 => repeat (first | (with_reducible first | exact HI0.out | apply IsS168.alloc | apply IsS168.drewN | apply IsS168.drew | apply IsS168.set_1) | exact HI0.out)); (case side2 => repeat (first | (with_reducible first | exact HB.out | apply below_alloc | apply pw_below_drewN | apply below_drew1 | refine below_set ?_ (IsS168.ge HI0.out)) | exact HB.out)); rintro e w61 ⟨rfl, hi, hb, hk⟩; refine ⟨_, rfl, ?_⟩; have n0_ := zA (KeepBut.trans zq1 hk (.inl rfl)); have n1_ := zA (hb); have n2_ := zA (hi); clear HK; clear HB; clear HI0; have HK := n0_; have HB := n1_; have HI0 := n2_; clear n0_ n1_ n2_; (try clear hb); (try clear hb2); (try clear hk); (try clear hi)) | ((with_reducible refine gate_callee (f := 183) rfl ?_); refine goesL_ (some 69) rfl rfl Try.func183 zq12 rfl #[.int .i64 t741] rfl zq2 ?_; (with_reducible refine (spec_l4word.calls t741 t743 _ A33.out).mono ?_); rintro e w' ⟨rfl, ⟨nd, rfl⟩⟩; refine ⟨_, rfl, ?_⟩) | (at_builtin; refine print_append_str w.heap.size rfl (.tmp 67) _ 33 9 5 rfl Try.underlying33 Try.underlying9 info5 (.slice none 0 0) ([] : List Int) t743 rfl rfl ?aO (Below.refl _ _) ?aS ?aL ?_; (case aO => exact (Kd.own_of_R (enc := fun n => Value.int .u8 n) (h1 := fun _ => rfl) (ok := fun _ => True) (Kd.R_nil (Kd.int .u8) _ _ _ _))); (case aS => exact (keep_size (w := w) (g := g) (row := none) zq1)); (case aL => have := LMc34.out; omega); intro v745 w62 ho0 hb hg; have ho := Kd.R_of_own (h1 := fun _ => rfl) (ok := fun _ => True) ho0 (fun _ _ => trivial); clear ho0; have hat := True.intro; rw [← Ny744.out] at ho; change Kd.R (Kd.int .u8) 5 w62 w.heap.size (fun _ => True) v745 y744 at ho; have n0_ := zA (IsS168.grown zq5 hg zq26); have n1_ := zA (below_weaken (by repeat (first | (with_reducible first | exact HB.out | apply below_alloc | apply pw_below_drewN | apply below_drew1 | refine below_set ?_ (IsS168.ge HI0.out)) | exact HB.out)) HL.out hb); have n2_ := zA (KeepBut.trans zq1 (KeepBut.of_grown hg g) (.inl zq26)); have n3_ := zA (ho); clear HI0; clear HB; clear HK; have HI0 := n0_; have HB := n1_; have HK := n2_; have HO746 := n3_; clear n0_ n1_ n2_ n3_; clear ho hb hg hat) | ((with_reducible refine gate_callee (f := 116) rfl ?_); refine goesL_ (some 76) rfl rfl Try.func116 zq12 rfl #[.pointer (some ⟨g, 0, none⟩)] rfl zq2 ?_; (with_reducible refine (spec_l1rd_next.calls g s0_0 t742 t747 t748 w0 _ ?side1 ?side2 A36.out).mono ?_); (case side1 => repeat (first | (with_reducible first | exact HI0.out | apply IsS168.alloc | apply IsS168.drewN | apply IsS168.drew | apply IsS168.set_1) | exact HI0.out)); (case side2 => repeat (first | (with_reducible first | exact HB.out | apply below_alloc | apply pw_below_drewN | apply below_drew1 | refine below_set ?_ (IsS168.ge HI0.out)) | exact HB.out)); rintro e w63 ⟨rfl, hi, hb, hk⟩; refine ⟨_, rfl, ?_⟩; have n0_ := zA (Kd.R_mono (Kd.R_keep (IsS168.apart (show IsS168 w0 _ g s0_0 t742 from by repeat (first | (with_reducible first | exact HI0.out | apply IsS168.alloc | apply IsS168.drewN | apply IsS168.drew | apply IsS168.set_1) | exact HI0.out)) zq20 zq13) hk (fun _ h => h.2)) (fun _ h => h.1)); have n1_ := zA (KeepBut.trans zq1 hk (.inl rfl)); have n2_ := zA (hb); have n3_ := zA (hi); clear HO746; clear HK; clear HB; clear HI0; have HO746 := n0_; have HK := n1_; have HB := n2_; have HI0 := n3_; clear n0_ n1_ n2_ n3_; (try clear hb); (try clear hb2); (try clear hk); (try clear hi)) | ((with_reducible refine gate_callee (f := 183) rfl ?_); refine goesL_ (some 85) rfl rfl Try.func183 zq12 rfl #[.int .i64 t747] rfl zq2 ?_; (with_reducible refine (spec_l4word.calls t747 t759 _ A56.out).mono ?_); rintro e w' ⟨rfl, ⟨nd, rfl⟩⟩; refine ⟨_, rfl, ?_⟩) | (at_builtin; refine print_append_str w.heap.size rfl (.tmp 83) _ 33 9 5 rfl Try.underlying33 Try.underlying9 info5 v745 y744 t759 rfl rfl ?aO (Below.refl _ _) ?aS ?aL ?_; (case aO => exact (Kd.own_of_R zq20)); (case aS => exact (keep_size (w := w) (g := g) (row := none) zq1)); (case aL => have := LMc57.out; omega); intro v761 w64 ho0 hb hg; have ho := Kd.R_of_own (h1 := fun _ => rfl) (ok := fun _ => True) ho0 (fun _ _ => trivial); clear ho0; have hat := True.intro; rw [← Ny760.out] at ho; change Kd.R (Kd.int .u8) 5 w64 w.heap.size (fun _ => True) v761 y760 at ho; have n0_ := zA (IsS168.grown zq5 hg (IsS168.own_ne HI0.out HO746.out zq13)); have n1_ := zA (below_weaken (by repeat (first | (with_reducible first | exact HB.out | apply below_alloc | apply pw_below_drewN | apply below_drew1 | refine below_set ?_ (IsS168.ge HI0.out)) | exact HB.out)) HL.out hb); have n2_ := zA (KeepBut.trans zq1 (KeepBut.of_grown hg g) (Kd.R_base2 HO746.out)); have n3_ := zA (ho); clear HI0; clear HB; clear HK; clear HO746; have HI0 := n0_; have HB := n1_; have HK := n2_; have HO762 := n3_; clear n0_ n1_ n2_ n3_; clear ho hb hg hat) | ((with_reducible refine gate_builtin (b := .append) (xs := #[.tmp 89, .tmp 94]) rfl ?_); at_builtin; refine Kd.R_append (Kd.int .u8) w.heap.size rfl (.tmp 89) (.tmp 94) 33 5 (.int .u8 0) 1 rfl Try.underlying33 info5 rfl zq13 zq3 v761 y760 ((wrap64 (48 + (Int.tmod (wrap64 (Int.tdiv t741 10)) 10))) % 256) [.int .u8 ((wrap64 (48 + (Int.tmod (wrap64 (Int.tdiv t741 10)) 10))) % 256)] (fun _ => True) (fun _ => False) rfl rfl ?aP (fun _ hk => hk.elim) ?aF ?aO (Below.refl _ _) ?aS ?aL ?_; (case aP => exact rfl); (case aF => exact (fun _ _ => trivial)); (case aO => exact (by (with_reducible repeat (first | apply Kd.R_alloc | apply Kd.R_drewN | apply Kd.R_drew)); exact HO762.out)); (case aS => exact (keep_size (w := w) (g := g) (row := none) zq1)); (case aL => have := LMc59.out; omega); intro v764 w65 ho hb hg hat; rw [← Ny763.out] at ho; have n0_ := zA (IsS168.grown zq5 hg (IsS168.own_ne HI0.out HO762.out zq13)); have n1_ := zA (below_weaken (by repeat (first | (with_reducible first | exact HB.out | apply below_alloc | apply pw_below_drewN | apply below_drew1 | refine below_set ?_ (IsS168.ge HI0.out)) | exact HB.out)) HL.out hb); have n2_ := zA (KeepBut.trans zq1 (KeepBut.of_grown hg g) (Kd.R_base2 HO762.out)); have n3_ := zA (ho); clear HI0; clear HB; clear HK; clear HO762; have HI0 := n0_; have HB := n1_; have HK := n2_; have HO765 := n3_; clear n0_ n1_ n2_ n3_; clear ho hb hg hat))
         go_ret
         exact ⟨_, zq9, by (with_reducible repeat (first | apply Kd.R_alloc | apply Kd.R_drewN | apply Kd.R_drew)); exact HO765.out, zq5, by repeat (first | (with_reducible first | exact HB.out | apply below_alloc | apply pw_below_drewN | apply below_drew1 | refine below_set ?_ (IsS168.ge HI0.out)) | exact HB.out), zq1⟩
        ·rw [if_neg c59] at H
         exact absurd H zq14
       ·rw [if_neg c58] at H
        have c58b0 : ((Int.tmod t716 8) == 7) = false := beq_eq_false_iff_ne.mpr c58
        have c58b1 : ((Int.tmod t716 8) != 7) = true := bne_iff_ne.mpr c58
        simp only [Option.some.injEq, Prod.mk.injEq] at H
        obtain ⟨rfl, rfl⟩ := H
        go_enter Try.func174, Try.ntmps174
        go_wp2_with (first | ((with_reducible refine gate_callee (f := 116) rfl ?_); refine goesL_ (some 14) rfl rfl Try.func116 zq12 rfl #[.pointer (some ⟨g, 0, none⟩)] rfl zq2 ?_; (with_reducible refine (spec_l1rd_next.calls g s0_0 s0_1 t716 t717 w0 _ ?side1 ?side2 A2.out).mono ?_); (case side1 => repeat (first | (with_reducible first | exact HI0.out | apply IsS168.alloc | apply IsS168.drewN | apply IsS168.drew | apply IsS168.set_1) | exact HI0.out)); (case side2 => repeat (first | (with_reducible first | exact HB.out | apply below_alloc | apply pw_below_drewN | apply below_drew1 | refine below_set ?_ (IsS168.ge HI0.out)) | exact HB.out)); rintro e w66 ⟨rfl, hi, hb, hk⟩; refine ⟨_, rfl, ?_⟩; have n0_ := zA (KeepBut.trans zq1 hk (.inl rfl)); have n1_ := zA (hb); have n2_ := zA (hi); clear HK; clear HB; clear HI0; have HK := n0_; have HB := n1_; have HI0 := n2_; clear n0_ n1_ n2_; (try clear hb); (try clear hb2); (try clear hk); (try clear hi)) | ((with_reducible refine gate_callee (f := 116) rfl ?_); refine goesL_ (some 66) rfl rfl Try.func116 zq12 rfl #[.pointer (some ⟨g, 0, none⟩)] rfl zq2 ?_; (with_reducible refine (spec_l1rd_next.calls g s0_0 t717 t741 t742 w0 _ ?side1 ?side2 A32.out).mono ?_); (case side1 => repeat (first | (with_reducible first | exact HI0.out | apply IsS168.alloc | apply IsS168.drewN | apply IsS168.drew | apply IsS168.set_1) | exact HI0.out)); (case side2 => repeat (first | (with_reducible first | exact HB.out | apply below_alloc | apply pw_below_drewN | apply below_drew1 | refine below_set ?_ (IsS168.ge HI0.out)) | exact HB.out)); rintro e w67 ⟨rfl, hi, hb, hk⟩; refine ⟨_, rfl, ?_⟩; have n0_ := zA (KeepBut.trans zq1 hk (.inl rfl)); have n1_ := zA (hb); have n2_ := zA (hi); clear HK; clear HB; clear HI0; have HK := n0_; have HB := n1_; have HI0 := n2_; clear n0_ n1_ n2_; (try clear hb); (try clear hb2); (try clear hk); (try clear hi)) | ((with_reducible refine gate_callee (f := 183) rfl ?_); refine goesL_ (some 69) rfl rfl Try.func183 zq12 rfl #[.int .i64 t741] rfl zq2 ?_; (with_reducible refine (spec_l4word.calls t741 t743 _ A33.out).mono ?_); rintro e w' ⟨rfl, ⟨nd, rfl⟩⟩; refine ⟨_, rfl, ?_⟩) | (at_builtin; refine print_append_str w.heap.size rfl (.tmp 67) _ 33 9 5 rfl Try.underlying33 Try.underlying9 info5 (.slice none 0 0) ([] : List Int) t743 rfl rfl ?aO (Below.refl _ _) ?aS ?aL ?_; (case aO => exact (Kd.own_of_R (enc := fun n => Value.int .u8 n) (h1 := fun _ => rfl) (ok := fun _ => True) (Kd.R_nil (Kd.int .u8) _ _ _ _))); (case aS => exact (keep_size (w := w) (g := g) (row := none) zq1)); (case aL => have := LMc34.out; omega); intro v745 w68 ho0 hb hg; have ho := Kd.R_of_own (h1 := fun _ => rfl) (ok := fun _ => True) ho0 (fun _ _ => trivial); clear ho0; have hat := True.intro; rw [← Ny744.out] at ho; change Kd.R (Kd.int .u8) 5 w68 w.heap.size (fun _ => True) v745 y744 at ho; have n0_ := zA (IsS168.grown zq5 hg zq26); have n1_ := zA (below_weaken (by repeat (first | (with_reducible first | exact HB.out | apply below_alloc | apply pw_below_drewN | apply below_drew1 | refine below_set ?_ (IsS168.ge HI0.out)) | exact HB.out)) HL.out hb); have n2_ := zA (KeepBut.trans zq1 (KeepBut.of_grown hg g) (.inl zq26)); have n3_ := zA (ho); clear HI0; clear HB; clear HK; have HI0 := n0_; have HB := n1_; have HK := n2_; have HO746 := n3_; clear n0_ n1_ n2_ n3_; clear ho hb hg hat) | ((with_reducible refine gate_callee (f := 116) rfl ?_); refine goesL_ (some 76) rfl rfl Try.func116 zq12 rfl #[.pointer (some ⟨g, 0, none⟩)] rfl zq2 ?_; (with_reducible refine (spec_l1rd_next.calls g s0_0 t742 t747 t748 w0 _ ?side1 ?side2 A36.out).mono ?_); (case side1 => repeat (first | (with_reducible first | exact HI0.out | apply IsS168.alloc | apply IsS168.drewN | apply IsS168.drew | apply IsS168.set_1) | exact HI0.out)); (case side2 => repeat (first | (with_reducible first | exact HB.out | apply below_alloc | apply pw_below_drewN | apply below_drew1 | refine below_set ?_ (IsS168.ge HI0.out)) | exact HB.out)); rintro e w69 ⟨rfl, hi, hb, hk⟩; refine ⟨_, rfl, ?_⟩; have n0_ := zA (Kd.R_mono (Kd.R_keep (IsS168.apart (show IsS168 w0 _ g s0_0 t742 from by repeat (first | (with_reducible first | exact HI0.out | apply IsS168.alloc | apply IsS168.drewN | apply IsS168.drew | apply IsS168.set_1) | exact HI0.out)) zq20 zq13) hk (fun _ h => h.2)) (fun _ h => h.1)); have n1_ := zA (KeepBut.trans zq1 hk (.inl rfl)); have n2_ := zA (hb); have n3_ := zA (hi); clear HO746; clear HK; clear HB; clear HI0; have HO746 := n0_; have HK := n1_; have HB := n2_; have HI0 := n3_; clear n0_ n1_ n2_ n3_; (try clear hb); (try clear hb2); (try clear hk); (try clear hi)) | ((with_reducible refine gate_callee (f := 183) rfl ?_); refine goesL_ (some 85) rfl rfl Try.func183 zq12 rfl #[.int .i64 t747] rfl zq2 ?_; (with_reducible refine (spec_l4word.calls t747 t759 _ A56.out).mono ?_); rintro e w' ⟨rfl, ⟨nd, rfl⟩⟩; refine ⟨_, rfl, ?_⟩) | (at_builtin; refine print_append_str w.heap.size rfl (.tmp 83) _ 33 9 5 rfl Try.underlying33 Try.underlying9 info5 v745 y744 t759 rfl rfl ?aO (Below.refl _ _) ?aS ?aL ?_; (case aO => exact (Kd.own_of_R zq20)); (case aS => exact (keep_size (w := w) (g := g) (row := none) zq1)); (case aL => have := LMc57.out; omega); intro v761 w70 ho0 hb hg; have ho := Kd.R_of_own (h1 := fun _ => rfl) (ok := fun _ => True) ho0 (fun _ _ => trivial); clear ho0; have hat := True.intro; rw [← Ny760.out] at ho; change Kd.R (Kd.int .u8) 5 w70 w.heap.size (fun _ => True) v761 y760 at ho; have n0_ := zA (IsS168.grown zq5 hg (IsS168.own_ne HI0.out HO746.out zq13)); have n1_ := zA (below_weaken (by repeat (first | (with_reducible first | exact HB.out | apply below_alloc | apply pw_below_drewN | apply below_drew1 | refine below_set ?_ (IsS168.ge HI0.out)) | exact HB.out)) HL.out hb); have n2_ := zA (KeepBut.trans zq1 (KeepBut.of_grown hg g) (Kd.R_base2 HO746.out)); have n3_ := zA (ho); clear HI0; clear HB; clear HK; clear HO746; have HI0 := n0_; have HB := n1_; have HK := n2_; have HO762 := n3_; clear n0_ n1_ n2_ n3_; clear ho hb hg hat))
        go_ret
        exact ⟨_, zq9, by (with_reducible repeat (first | apply Kd.R_alloc | apply Kd.R_drewN | apply Kd.R_drew)); exact HO762.out, zq5, by repeat (first | (with_reducible first | exact HB.out | apply below_alloc | apply pw_below_drewN | apply below_drew1 | refine below_set ?_ (IsS168.ge HI0.out)) | exact HB.out), zq1⟩
      ·rw [if_neg c57] at H
       exact absurd H zq14
    ·rw [if_neg c35] at H
     have c35b0 : decide ((Int.tmod t716 8) < 6) = false := decide_eq_false c35
     clear c35
     by_cases c71 : (Int.tmod t716 8) = 7
     ·rw [if_pos c71] at H
      have c71b0 : ((Int.tmod t716 8) == 7) = true := beq_iff_eq.mpr c71
      have c71b1 : ((Int.tmod t716 8) != 7) = false := bne_eq_false_iff_eq.mpr c71
      clear c71
      by_cases c72 : y744.length < 140737488355328
      ·rw [if_pos c72] at H
       have LMc72 := zA c72
       clear c72
       obtain ⟨y766, hy766⟩ : ∃ y_ : List Int, y_ = (y744 ++ [(wrap64 (48 + (Int.tmod t741 10))) % 256]) := ⟨_, rfl⟩
       replace H : (some (y766, t742)) = some (r1, r2) := by first | (rw [hy766]; with_reducible exact H) | (have H2_ := (Option.bind_some _ _).symm.trans H; rw [hy766]; with_reducible exact H2_) | (have H2_ := (Option.bind_some _ _).symm.trans H; with_reducible exact H2_) | with_reducible exact H | (rw [hy766]; exact H) | exact H
       have Ny766 := zA hy766
       clear hy766
       simp only [Option.some.injEq, Prod.mk.injEq] at H
       obtain ⟨rfl, rfl⟩ := H
       go_enter Try.func174, Try.ntmps174
       go_wp2_with (first | ((with_reducible refine gate_callee (f := 116) rfl ?_); refine goesL_ (some 14) rfl rfl Try.func116 zq12 rfl #[.pointer (some ⟨g, 0, none⟩)] rfl zq2 ?_; (with_reducible refine (spec_l1rd_next.calls g s0_0 s0_1 t716 t717 w0 _ ?side1 ?side2 A2.out).mono ?_); (case side1 => repeat (first | (with_reducible first | exact HI0.out | apply IsS168.alloc | apply IsS168.drewN | apply IsS168.drew | apply IsS168.set_1) | exact HI0.out)); (case side2 => repeat (first | (with_reducible first | exact HB.out | apply below_alloc | apply pw_below_drewN | apply below_drew1 | refine below_set ?_ (IsS168.ge HI0.out)) | exact HB.out)); rintro e w73 ⟨rfl, hi, hb, hk⟩; refine ⟨_, rfl, ?_⟩; have n0_ := zA (KeepBut.trans zq1 hk (.inl rfl)); have n1_ := zA (hb); have n2_ := zA (hi); clear HK; clear HB; clear HI0; have HK := n0_; have HB := n1_; have HI0 := n2_; clear n0_ n1_ n2_; (try clear hb); (try clear hb2); (try clear hk); (try clear hi)) | ((with_reducible refine gate_callee (f := 116) rfl ?_); refine goesL_ (some 66) rfl rfl Try.func116 zq12 rfl #[.pointer (some ⟨g, 0, none⟩)] rfl zq2 ?_; (with_reducible refine (spec_l1rd_next.calls g s0_0 t717 t741 t742 w0 _ ?side1 ?side2 A32.out).mono ?_); (case side1 => repeat (first | (with_reducible first | exact HI0.out | apply IsS168.alloc | apply IsS168.drewN | apply IsS168.drew | apply IsS168.set_1) | exact HI0.out)); (case side2 => repeat (first | (with_reducible first | exact HB.out | apply below_alloc | apply pw_below_drewN | apply below_drew1 | refine below_set ?_ (IsS168.ge HI0.out)) | exact HB.out)); rintro e w74 ⟨rfl, hi, hb, hk⟩; refine ⟨_, rfl, ?_⟩; have n0_ := zA (KeepBut.trans zq1 hk (.inl rfl)); have n1_ := zA (hb); have n2_ := zA (hi); clear HK; clear HB; clear HI0; have HK := n0_; have HB := n1_; have HI0 := n2_; clear n0_ n1_ n2_; (try clear hb); (try clear hb2); (try clear hk); (try clear hi)) | ((with_reducible refine gate_callee (f := 183) rfl ?_); refine goesL_ (some 69) rfl rfl Try.func183 zq12 rfl #[.int .i64 t741] rfl zq2 ?_; (with_reducible refine (spec_l4word.calls t741 t743 _ A33.out).mono ?_); rintro e w' ⟨rfl, ⟨nd, rfl⟩⟩; refine ⟨_, rfl, ?_⟩) | (at_builtin; refine print_append_str w.heap.size rfl (.tmp 67) _ 33 9 5 rfl Try.underlying33 Try.underlying9 info5 (.slice none 0 0) ([] : List Int) t743 rfl rfl ?aO (Below.refl _ _) ?aS ?aL ?_; (case aO => exact (Kd.own_of_R (enc := fun n => Value.int .u8 n) (h1 := fun _ => rfl) (ok := fun _ => True) (Kd.R_nil (Kd.int .u8) _ _ _ _))); (case aS => exact (keep_size (w := w) (g := g) (row := none) zq1)); (case aL => have := LMc34.out; omega); intro v745 w75 ho0 hb hg; have ho := Kd.R_of_own (h1 := fun _ => rfl) (ok := fun _ => True) ho0 (fun _ _ => trivial); clear ho0; have hat := True.intro; rw [← Ny744.out] at ho; change Kd.R (Kd.int .u8) 5 w75 w.heap.size (fun _ => True) v745 y744 at ho; have n0_ := zA (IsS168.grown zq5 hg zq26); have n1_ := zA (below_weaken (by repeat (first | (with_reducible first | exact HB.out | apply below_alloc | apply pw_below_drewN | apply below_drew1 | refine below_set ?_ (IsS168.ge HI0.out)) | exact HB.out)) HL.out hb); have n2_ := zA (KeepBut.trans zq1 (KeepBut.of_grown hg g) (.inl zq26)); have n3_ := zA (ho); clear HI0; clear HB; clear HK; have HI0 := n0_; have HB := n1_; have HK := n2_; have HO746 := n3_; clear n0_ n1_ n2_ n3_; clear ho hb hg hat) | ((with_reducible refine gate_builtin (b := .append) (xs := #[.tmp 89, .tmp 94]) rfl ?_); at_builtin; refine Kd.R_append (Kd.int .u8) w.heap.size rfl (.tmp 89) (.tmp 94) 33 5 (.int .u8 0) 1 rfl Try.underlying33 info5 rfl zq13 zq3 v745 y744 ((wrap64 (48 + (Int.tmod t741 10))) % 256) [.int .u8 ((wrap64 (48 + (Int.tmod t741 10))) % 256)] (fun _ => True) (fun _ => False) rfl rfl ?aP (fun _ hk => hk.elim) ?aF ?aO (Below.refl _ _) ?aS ?aL ?_; (case aP => exact rfl); (case aF => exact (fun _ _ => trivial)); (case aO => exact zq20); (case aS => exact (keep_size (w := w) (g := g) (row := none) zq1)); (case aL => have := LMc72.out; omega); intro v767 w76 ho hb hg hat; rw [← Ny766.out] at ho; have n0_ := zA (IsS168.grown zq5 hg (IsS168.own_ne HI0.out HO746.out zq13)); have n1_ := zA (below_weaken (by repeat (first | (with_reducible first | exact HB.out | apply below_alloc | apply pw_below_drewN | apply below_drew1 | refine below_set ?_ (IsS168.ge HI0.out)) | exact HB.out)) HL.out hb); have n2_ := zA (KeepBut.trans zq1 (KeepBut.of_grown hg g) (Kd.R_base2 HO746.out)); have n3_ := zA (ho); clear HI0; clear HB; clear HK; clear HO746; have HI0 := n0_; have HB := n1_; have HK := n2_; have HO768 := n3_; clear n0_ n1_ n2_ n3_; clear ho hb hg hat))
       go_ret
       exact ⟨_, zq9, by (with_reducible repeat (first | apply Kd.R_alloc | apply Kd.R_drewN | apply Kd.R_drew)); exact HO768.out, zq5, by repeat (first | (with_reducible first | exact HB.out | apply below_alloc | apply pw_below_drewN | apply below_drew1 | refine below_set ?_ (IsS168.ge HI0.out)) | exact HB.out), zq1⟩
      ·rw [if_neg c72] at H
       exact absurd H zq14
     ·rw [if_neg c71] at H
      have c71b0 : ((Int.tmod t716 8) == 7) = false := beq_eq_false_iff_ne.mpr c71
      have c71b1 : ((Int.tmod t716 8) != 7) = true := bne_iff_ne.mpr c71
      simp only [Option.some.injEq, Prod.mk.injEq] at H
      obtain ⟨rfl, rfl⟩ := H
      go_enter Try.func174, Try.ntmps174
      go_wp2_with (first | ((with_reducible refine gate_callee (f := 116) rfl ?_); refine goesL_ (some 14) rfl rfl Try.func116 zq12 rfl #[.pointer (some ⟨g, 0, none⟩)] rfl zq2 ?_; (with_reducible refine (spec_l1rd_next.calls g s0_0 s0_1 t716 t717 w0 _ ?side1 ?side2 A2.out).mono ?_); (case side1 => repeat (first | (with_reducible first | exact HI0.out | apply IsS168.alloc | apply IsS168.drewN | apply IsS168.drew | apply IsS168.set_1) | exact HI0.out)); (case side2 => repeat (first | (with_reducible first | exact HB.out | apply below_alloc | apply pw_below_drewN | apply below_drew1 | refine below_set ?_ (IsS168.ge HI0.out)) | exact HB.out)); rintro e w77 ⟨rfl, hi, hb, hk⟩; refine ⟨_, rfl, ?_⟩; have n0_ := zA (KeepBut.trans zq1 hk (.inl rfl)); have n1_ := zA (hb); have n2_ := zA (hi); clear HK; clear HB; clear HI0; have HK := n0_; have HB := n1_; have HI0 := n2_; clear n0_ n1_ n2_; (try clear hb); (try clear hb2); (try clear hk); (try clear hi)) | ((with_reducible refine gate_callee (f := 116) rfl ?_); refine goesL_ (some 66) rfl rfl Try.func116 zq12 rfl #[.pointer (some ⟨g, 0, none⟩)] rfl zq2 ?_; (with_reducible refine (spec_l1rd_next.calls g s0_0 t717 t741 t742 w0 _ ?side1 ?side2 A32.out).mono ?_); (case side1 => repeat (first | (with_reducible first | exact HI0.out | apply IsS168.alloc | apply IsS168.drewN | apply IsS168.drew | apply IsS168.set_1) | exact HI0.out)); (case side2 => repeat (first | (with_reducible first | exact HB.out | apply below_alloc | apply pw_below_drewN | apply below_drew1 | refine below_set ?_ (IsS168.ge HI0.out)) | exact HB.out)); rintro e w78 ⟨rfl, hi, hb, hk⟩; refine ⟨_, rfl, ?_⟩; have n0_ := zA (KeepBut.trans zq1 hk (.inl rfl)); have n1_ := zA (hb); have n2_ := zA (hi); clear HK; clear HB; clear HI0; have HK := n0_; have HB := n1_; have HI0 := n2_; clear n0_ n1_ n2_; (try clear hb); (try clear hb2); (try clear hk); (try clear hi)) | ((with_reducible refine gate_callee (f := 183) rfl ?_); refine goesL_ (some 69) rfl rfl Try.func183 zq12 rfl #[.int .i64 t741] rfl zq2 ?_; (with_reducible refine (spec_l4word.calls t741 t743 _ A33.out).mono ?_); rintro e w' ⟨rfl, ⟨nd, rfl⟩⟩; refine ⟨_, rfl, ?_⟩) | (at_builtin; refine print_append_str w.heap.size rfl (.tmp 67) _ 33 9 5 rfl Try.underlying33 Try.underlying9 info5 (.slice none 0 0) ([] : List Int) t743 rfl rfl ?aO (Below.refl _ _) ?aS ?aL ?_; (case aO => exact (Kd.own_of_R (enc := fun n => Value.int .u8 n) (h1 := fun _ => rfl) (ok := fun _ => True) (Kd.R_nil (Kd.int .u8) _ _ _ _))); (case aS => exact (keep_size (w := w) (g := g) (row := none) zq1)); (case aL => have := LMc34.out; omega); intro v745 w79 ho0 hb hg; have ho := Kd.R_of_own (h1 := fun _ => rfl) (ok := fun _ => True) ho0 (fun _ _ => trivial); clear ho0; have hat := True.intro; rw [← Ny744.out] at ho; change Kd.R (Kd.int .u8) 5 w79 w.heap.size (fun _ => True) v745 y744 at ho; have n0_ := zA (IsS168.grown zq5 hg zq26); have n1_ := zA (below_weaken (by repeat (first | (with_reducible first | exact HB.out | apply below_alloc | apply pw_below_drewN | apply below_drew1 | refine below_set ?_ (IsS168.ge HI0.out)) | exact HB.out)) HL.out hb); have n2_ := zA (KeepBut.trans zq1 (KeepBut.of_grown hg g) (.inl zq26)); have n3_ := zA (ho); clear HI0; clear HB; clear HK; have HI0 := n0_; have HB := n1_; have HK := n2_; have HO746 := n3_; clear n0_ n1_ n2_ n3_; clear ho hb hg hat))
      go_ret
      exact ⟨_, zq9, zq20, zq5, by repeat (first | (with_reducible first | exact HB.out | apply below_alloc | apply pw_below_drewN | apply below_drew1 | refine below_set ?_ (IsS168.ge HI0.out)) | exact HB.out), zq1⟩
   ·rw [if_neg c34] at H
    exact absurd H zq14
def spec_l4drawLines.l0 : Nat → Int → List (List Int) → Int → List Int → Int → Option ((List (List Int)) × Int)
 | 0, _, _, _, _, _ => none
 | k + 1, x5, x6, x7, x1000, x1001 => if x7 < x5 then ((spec_l4drawLine.f k x1000 x1001).bind fun bt771 => (if x6.length < 5864062014805 then (spec_l4drawLines.l0 k x5 (x6 ++ [bt771.1]) (wrap64 (x7 + 1)) x1000 bt771.2) else (none))) else (some (x6, x1001))
def spec_l4drawLines.f (k : Nat) (s0_0 : List Int) (s0_1 : Int) (a1 : Int) : Option ((List (List Int)) × Int) := (spec_l1rd_next.f s0_0 s0_1).bind fun bt769 => (if a1 = 0 then (none) else (spec_l4drawLines.l0 k (wrap64 (1 + (Int.tmod bt769.1 a1))) ([] : List (List Int)) 0 s0_0 bt769.2))
theorem spec_l4drawLines.mono_l : ∀ k, (∀ y0 y1 y2 y3 y4, LeO (spec_l4drawLines.l0 k y0 y1 y2 y3 y4) (spec_l4drawLines.l0 (k + 1) y0 y1 y2 y3 y4))
 | 0 => fun _ _ _ _ _ r h => by simp [spec_l4drawLines.l0] at h
 | k + 1 => by
  have ih0 := spec_l4drawLines.mono_l k
  ·intro y0 y1 y2 y3 y4
   unfold spec_l4drawLines.l0
   repeat' first
   | (with_reducible exact ih0 _ _ _ _ _)
   | (with_reducible exact spec_l4drawLine.mono _ _ _)
   | (with_reducible exact LeO.refl _)
   | (with_reducible exact LeO.none _)
   | (with_reducible refine LeO.ite ?_ ?_)
   | (with_reducible refine LeO.bind ?_ (fun _ => ?_))
   | exact ih0 _ _ _ _ _
   | exact spec_l4drawLine.mono _ _ _
   | exact LeO.none _
   | refine LeO.ite ?_ ?_
   | refine LeO.bind ?_ (fun _ => ?_)
theorem spec_l4drawLines.mono : ∀ a0 a1 a2 k, LeO (spec_l4drawLines.f k a0 a1 a2) (spec_l4drawLines.f (k + 1) a0 a1 a2) := by
 intro a0 a1 a2 k
 have ih0 := spec_l4drawLines.mono_l k
 unfold spec_l4drawLines.f
 repeat' first
   | (with_reducible exact ih0 _ _ _ _ _)
   | (with_reducible exact spec_l4drawLine.mono _ _ _)
   | (with_reducible exact LeO.refl _)
   | (with_reducible exact LeO.none _)
   | (with_reducible refine LeO.ite ?_ ?_)
   | (with_reducible refine LeO.bind ?_ (fun _ => ?_))
   | exact ih0 _ _ _ _ _
   | exact spec_l4drawLine.mono _ _ _
   | exact LeO.none _
   | refine LeO.ite ?_ ?_
   | refine LeO.bind ?_ (fun _ => ?_)
set_option maxHeartbeats 8000000 in
set_option maxRecDepth 100000 in
theorem spec_l4drawLines.calls (k : Nat) (g : Nat) (s0_0 : List Int) (s0_1 : Int) (a1 : Int) (r1 : List (List Int)) (r2 : Int) (w0 w : World) (hI : IsS168 w0 w g s0_0 s0_1) (hB : Below w0.heap.size w0 w) (h : spec_l4drawLines.f k s0_0 s0_1 a1 = some (r1, r2)) :
  Calls Try.prog 154 #[.pointer (some ⟨g, 0, none⟩), .int .i64 a1] w fun e w' => ∃ v0_ : Value, e = .returned (v0_) ∧ Kd.S (Kd.slice 5 (Kd.int .u8)) 33 w' w.heap.size (fun _ => True) v0_ r1 ∧ IsS168 w0 w' g s0_0 r2 ∧ Below w0.heap.size w0 w' ∧ KeepBut w w' g none := by
 have HI0 := zA hI
 have HK := zA (KeepBut.refl w g none)
 have HL := zA hB.size
 clear hI
 have HW0 := zA hB.size
 have HB := zA hB
 clear hB
 have H : ((spec_l1rd_next.f s0_0 s0_1).bind fun bt769 => (if a1 = 0 then (none) else (spec_l4drawLines.l0 k (wrap64 (1 + (Int.tmod bt769.1 a1))) ([] : List (List Int)) 0 s0_0 bt769.2))) = some (r1, r2) := h
 clear h
 replace H := Option.bind_eq_some_iff.mp H
 obtain ⟨⟨t769, t770⟩, A30, H⟩ := H
 replace H : (if a1 = 0 then (none) else (spec_l4drawLines.l0 k (wrap64 (1 + (Int.tmod t769 a1))) ([] : List (List Int)) 0 s0_0 t770)) = some (r1, r2) := H
 have A3 := zA A30
 clear A30
 by_cases c4 : a1 = 0
 ·rw [if_pos c4] at H
  exact absurd H zq14
 ·rw [if_neg c4] at H
  have c4b0 : (a1 == 0) = false := beq_eq_false_iff_ne.mpr c4
  have c4b1 : (a1 != 0) = true := bne_iff_ne.mpr c4
  have H' := zA H
  clear H
  go_enter Try.func154, Try.ntmps154
  go_wp2_with (first | ((with_reducible refine gate_callee (f := 116) rfl ?_); refine goesL_ (some 9) rfl rfl Try.func116 zq12 rfl #[.pointer (some ⟨g, 0, none⟩)] rfl zq2 ?_; (with_reducible refine (spec_l1rd_next.calls g s0_0 s0_1 t769 t770 w0 _ ?side1 ?side2 A3.out).mono ?_); (case side1 => repeat (first | (with_reducible first | exact HI0.out | apply IsS168.alloc | apply IsS168.drewN | apply IsS168.drew | apply IsS168.set_1) | exact HI0.out)); (case side2 => repeat (first | (with_reducible first | exact HB.out | apply below_alloc | apply pw_below_drewN | apply below_drew1 | refine below_set ?_ (IsS168.ge HI0.out)) | exact HB.out)); rintro e w5 ⟨rfl, hi, hb, hk⟩; refine ⟨_, rfl, ?_⟩; have n0_ := zA (KeepBut.trans zq1 hk (.inl rfl)); have n1_ := zA (hb); have n2_ := zA (hi); clear HK; clear HB; clear HI0; have HK := n0_; have HB := n1_; have HI0 := n2_; clear n0_ n1_ n2_; (try clear hb); (try clear hb2); (try clear hk); (try clear hi)))
  go_loopg [6, 7] k (fun kq v6 v7 w' => ∃ (x6_1 : List (List Int)) (x7_1 : Int) (x1001_1 : Int), v7 = .int .i64 x7_1 ∧ Aside0 (spec_l4drawLines.l0 kq (wrap64 (1 + (Int.tmod t769 a1))) x6_1 x7_1 s0_0 x1001_1 = some (r1, r2)) ∧ Aside0 (kq ≤ k) ∧ Aside0 (Kd.S (Kd.slice 5 (Kd.int .u8)) 33 w' w.heap.size (fun _ => True) v6 x6_1) ∧ Aside0 (IsS168 w0 w' g s0_0 x1001_1) ∧ Aside0 (KeepBut w w' g none) ∧ Aside0 (Below w0.heap.size w0 w'))
  case atStart => exact ⟨(([] : List (List Int))), (0), (t770), zq6, H', ⟨Nat.le_refl _⟩, ⟨zq16⟩, ⟨zq5⟩, ⟨zq1⟩, ⟨by repeat (first | (with_reducible first | exact HB.out | apply below_alloc | apply pw_below_drewN | apply below_drew1 | refine below_set ?_ (IsS168.ge HI0.out)) | exact HB.out)⟩⟩
  case round =>
   clear H'
   try clear c1
   try clear p2
   try clear c4
   try clear c4b0
   try clear c4b1
   obtain ⟨x6_1, x7_1, x1001_1, rfl, HA, HK1, HO_6, HI0, HK, HB⟩ := hrel
   cases gk with
   | zero => exact absurd HA.out (by simp [spec_l4drawLines.l0])
   | succ k1 =>
    have H := HA.out
    clear HA
    simp only [spec_l4drawLines.l0] at H
    by_cases c6 : x7_1 < (wrap64 (1 + (Int.tmod t769 a1)))
    ·rw [if_pos c6] at H
     have c6b0 : decide (x7_1 < (wrap64 (1 + (Int.tmod t769 a1)))) = true := decide_eq_true c6
     clear c6
     replace H := Option.bind_eq_some_iff.mp H
     obtain ⟨⟨t771, t774⟩, A70, H⟩ := H
     replace H : (if x6_1.length < 5864062014805 then (spec_l4drawLines.l0 k1 (wrap64 (1 + (Int.tmod t769 a1))) (x6_1 ++ [t771]) (wrap64 (x7_1 + 1)) s0_0 t774) else (none)) = some (r1, r2) := H
     have A7 := zA A70
     clear A70
     by_cases c8 : x6_1.length < 5864062014805
     ·rw [if_pos c8] at H
      have LMc8 := zA c8
      clear c8
      obtain ⟨y775, hy775⟩ : ∃ y_ : List (List Int), y_ = (x6_1 ++ [t771]) := ⟨_, rfl⟩
      replace H : (spec_l4drawLines.l0 k1 (wrap64 (1 + (Int.tmod t769 a1))) y775 (wrap64 (x7_1 + 1)) s0_0 t774) = some (r1, r2) := by first | (rw [hy775]; with_reducible exact H) | (have H2_ := (Option.bind_some _ _).symm.trans H; rw [hy775]; with_reducible exact H2_) | (have H2_ := (Option.bind_some _ _).symm.trans H; with_reducible exact H2_) | with_reducible exact H | (rw [hy775]; exact H) | exact H
      have Ny775 := zA hy775
      clear hy775
      have H' := zA H
      clear H
      go_wp2_with (first | ((with_reducible refine gate_callee (f := 174) rfl ?_); refine goesL_ (some 20) rfl rfl Try.func174 zq12 rfl #[.pointer (some ⟨g, 0, none⟩)] rfl zq2 ?_; (with_reducible refine (spec_l4drawLine.calls k1 g s0_0 x1001_1 t771 t774 w0 _ ?side1 ?side2 A7.out).mono ?_); (case side1 => repeat (first | (with_reducible first | exact HI0.out | apply IsS168.alloc | apply IsS168.drewN | apply IsS168.drew | apply IsS168.set_1) | exact HI0.out)); (case side2 => repeat (first | (with_reducible first | exact HB.out | apply below_alloc | apply pw_below_drewN | apply below_drew1 | refine below_set ?_ (IsS168.ge HI0.out)) | exact HB.out)); rintro e w9 ⟨v772, rfl, ho0, hi, hb, hk⟩; refine ⟨_, rfl, ?_⟩; have n0_ := zA (Kd.S_mono (Kd.S_told (Kd.S_oldK (IsS168.apartS (show IsS168 w0 _ g s0_0 x1001_1 from by repeat (first | (with_reducible first | exact HI0.out | apply IsS168.alloc | apply IsS168.drewN | apply IsS168.drew | apply IsS168.set_1) | exact HI0.out)) zq22 zq13) hk) (Kd.R_base ho0)) (fun _ h_ => h_.1)); have n1_ := zA (Kd.R_lower ho0 (keep_size (w := w) (g := g) (row := none) zq1)); have n2_ := zA (KeepBut.trans zq1 hk (.inl rfl)); have n3_ := zA (hb); have n4_ := zA (hi); clear HO_6; clear HK; clear HB; clear HI0; have HO_6 := n0_; have HO773 := n1_; have HK := n2_; have HB := n3_; have HI0 := n4_; clear n0_ n1_ n2_ n3_ n4_; (try clear hb); (try clear hb2); (try clear hk); (try clear hi); (try clear ho0); obtain ⟨Ao11, co11, eo11⟩ := Kd.R_slice HO773.out; subst eo11) | ((with_reducible refine gate_builtin (b := .append) (xs := #[.tmp 18, .tmp 21]) rfl ?_); at_builtin; refine Kd.S_append (Kd.slice 5 (Kd.int .u8)) w.heap.size rfl (.tmp 18) (.tmp 21) 41 33 (.slice none 0 0) 24 rfl Try.underlying41 info33 rfl zq13 zq3 u6 x6_1 t771 [.slice Ao11 t771.length co11] (fun _ => True) (fun k_ => some k_ = (.slice Ao11 t771.length co11 : Value).ownBlock) rfl rfl ?aP (fun k_ hk_ => ((Kd.R_mono (ok' := fun k_ => ((fun _ => True)) k_ ∧ some k_ ≠ (u6 : Value).ownBlock) (Kd.R_apart' (HO773.out) (Kd.S_typed HO_6.out) zq13) (fun k_ hk => ⟨trivial, hk.2⟩))).1 k_ hk_.symm) ?aF ?aO (Below.refl _ _) ?aS ?aL ?_; (case aP => exact Kd.M_row (Kd.R_mono (Kd.R_tight rfl (Kd.R_mono (ok' := fun k_ => ((fun _ => True)) k_ ∧ some k_ ≠ (u6 : Value).ownBlock) (Kd.R_apart' (HO773.out) (Kd.S_typed HO_6.out) zq13) (fun k_ hk => ⟨trivial, hk.2⟩))) (fun _ h_ => h_))); (case aF => exact (fun _ _ => trivial)); (case aO => exact (by (with_reducible repeat (first | apply Kd.S_alloc | apply Kd.S_drewN | apply Kd.S_drew)); exact Kd.S_mono HO_6.out (fun k_ hk => ⟨trivial, fun e_ => hk.2 e_⟩))); (case aS => exact (keep_size (w := w) (g := g) (row := none) zq1)); (case aL => have := LMc8.out; omega); intro v776 w10 ho hb hg hat; rw [← Ny775.out] at ho; have n0_ := zA (IsS168.grown zq5 hg (IsS168.own_neS HI0.out HO_6.out zq13)); have n1_ := zA (below_weaken (by repeat (first | (with_reducible first | exact HB.out | apply below_alloc | apply pw_below_drewN | apply below_drew1 | refine below_set ?_ (IsS168.ge HI0.out)) | exact HB.out)) HL.out hb); have n2_ := zA (KeepBut.trans zq1 (KeepBut.of_grown hg g) (Kd.S_base2 HO_6.out)); have n3_ := zA (ho); clear HI0; clear HB; clear HK; clear HO_6; clear HO773; have HI0 := n0_; have HB := n1_; have HK := n2_; have HO777 := n3_; clear n0_ n1_ n2_ n3_; clear ho hb hg hat))
      go_roundg k1
      case measure => have := HK1.out; omega
      case rel => exact ⟨(y775), (wrap64 (x7_1 + 1)), (t774), zq6, H', ⟨zq39⟩, ⟨by (with_reducible repeat (first | apply Kd.S_alloc | apply Kd.S_drewN | apply Kd.S_drew)); exact HO777.out⟩, ⟨zq5⟩, ⟨zq1⟩, ⟨by repeat (first | (with_reducible first | exact HB.out | apply below_alloc | apply pw_below_drewN | apply below_drew1 | refine below_set ?_ (IsS168.ge HI0.out)) | exact HB.out)⟩⟩
     ·rw [if_neg c8] at H
      exact absurd H zq14
    ·rw [if_neg c6] at H
     have c6b0 : decide (x7_1 < (wrap64 (1 + (Int.tmod t769 a1)))) = false := decide_eq_false c6
     clear c6
     simp only [Option.some.injEq, Prod.mk.injEq] at H
     obtain ⟨rfl, rfl⟩ := H
     go_wp2
     go_ret
     exact ⟨_, zq9, zq22, zq5, by repeat (first | (with_reducible first | exact HB.out | apply below_alloc | apply pw_below_drewN | apply below_drew1 | refine below_set ?_ (IsS168.ge HI0.out)) | exact HB.out), zq1⟩
def spec_l4drawSegment.f (k : Nat) (s0_0 : List Int) (s0_1 : Int) : Option (Int × (List (List Int)) × List Int × (List (List Int)) × Int) := (spec_l4drawLines.f k s0_0 s0_1 12).bind fun bt779 => ((spec_l1rd_next.f s0_0 bt779.2).bind fun bt783 => (if (Int.tmod bt783.1 3) = 0 then ((spec_l4build.f k 0 bt779.1).bind fun bt785 => (some (bt785.1, bt785.2.1, bt785.2.2.1, bt785.2.2.2, bt783.2))) else ((spec_l4build.f k bt783.1 bt779.1).bind fun bt795 => (some (bt795.1, bt795.2.1, bt795.2.2.1, bt795.2.2.2, bt783.2)))))
theorem spec_l4drawSegment.mono : ∀ a0 a1 k, LeO (spec_l4drawSegment.f k a0 a1) (spec_l4drawSegment.f (k + 1) a0 a1) := by
 intro a0 a1 k
 unfold spec_l4drawSegment.f
 repeat' first
   | (with_reducible exact spec_l4build.mono _ _ _)
   | (with_reducible exact spec_l4drawLines.mono _ _ _ _)
   | (with_reducible exact LeO.refl _)
   | (with_reducible exact LeO.none _)
   | (with_reducible refine LeO.ite ?_ ?_)
   | (with_reducible refine LeO.bind ?_ (fun _ => ?_))
   | exact spec_l4build.mono _ _ _
   | exact spec_l4drawLines.mono _ _ _ _
   | exact LeO.none _
   | refine LeO.ite ?_ ?_
   | refine LeO.bind ?_ (fun _ => ?_)
set_option maxHeartbeats 8000000 in
set_option maxRecDepth 100000 in
theorem spec_l4drawSegment.calls (k : Nat) (g : Nat) (s0_0 : List Int) (s0_1 : Int) (r1 : Int) (r2 : List (List Int)) (r3 : List Int) (r4 : List (List Int)) (r5 : Int) (w0 w : World) (hI : IsS168 w0 w g s0_0 s0_1) (hB : Below w0.heap.size w0 w) (h : spec_l4drawSegment.f k s0_0 s0_1 = some (r1, r2, r3, r4, r5)) :
  Calls Try.prog 118 #[.pointer (some ⟨g, 0, none⟩)] w fun e w' => ∃ v1_ v2_ v3_ : Value, e = .returned (.agg #[.int .i64 r1, v1_, v2_, v3_]) ∧ Kd.S (Kd.slice 5 (Kd.int .u8)) 33 w' w.heap.size (fun _ => True) v1_ r2 ∧ Kd.R (Kd.int .i64) 3 w' w.heap.size (fun _ => True) v2_ r3 ∧ Kd.S (Kd.slice 3 (Kd.int .i64)) 22 w' w.heap.size (fun k_ => some k_ ≠ (v2_ : Value).ownBlock) v3_ r4 ∧ IsS168 w0 w' g s0_0 r5 ∧ Below w0.heap.size w0 w' ∧ KeepBut w w' g none := by
 have hu50 := Try.underlying50
 have HI0 := zA hI
 have HK := zA (KeepBut.refl w g none)
 have HL := zA hB.size
 clear hI
 have HW0 := zA hB.size
 have HB := zA hB
 clear hB
 have H : ((spec_l4drawLines.f k s0_0 s0_1 12).bind fun bt779 => ((spec_l1rd_next.f s0_0 bt779.2).bind fun bt783 => (if (Int.tmod bt783.1 3) = 0 then ((spec_l4build.f k 0 bt779.1).bind fun bt785 => (some (bt785.1, bt785.2.1, bt785.2.2.1, bt785.2.2.2, bt783.2))) else ((spec_l4build.f k bt783.1 bt779.1).bind fun bt795 => (some (bt795.1, bt795.2.1, bt795.2.2.1, bt795.2.2.2, bt783.2)))))) = some (r1, r2, r3, r4, r5) := h
 clear h
 replace H := Option.bind_eq_some_iff.mp H
 obtain ⟨⟨t779, t782⟩, A20, H⟩ := H
 replace H : ((spec_l1rd_next.f s0_0 t782).bind fun bt783 => (if (Int.tmod bt783.1 3) = 0 then ((spec_l4build.f k 0 t779).bind fun bt785 => (some (bt785.1, bt785.2.1, bt785.2.2.1, bt785.2.2.2, bt783.2))) else ((spec_l4build.f k bt783.1 t779).bind fun bt795 => (some (bt795.1, bt795.2.1, bt795.2.2.1, bt795.2.2.2, bt783.2))))) = some (r1, r2, r3, r4, r5) := H
 have A2 := zA A20
 clear A20
 replace H := Option.bind_eq_some_iff.mp H
 obtain ⟨⟨t783, t784⟩, A30, H⟩ := H
 replace H : (if (Int.tmod t783 3) = 0 then ((spec_l4build.f k 0 t779).bind fun bt785 => (some (bt785.1, bt785.2.1, bt785.2.2.1, bt785.2.2.2, t784))) else ((spec_l4build.f k t783 t779).bind fun bt795 => (some (bt795.1, bt795.2.1, bt795.2.2.1, bt795.2.2.2, t784)))) = some (r1, r2, r3, r4, r5) := H
 have A3 := zA A30
 clear A30
 by_cases c4 : (Int.tmod t783 3) = 0
 ·rw [if_pos c4] at H
  have c4b0 : ((Int.tmod t783 3) == 0) = true := beq_iff_eq.mpr c4
  have c4b1 : ((Int.tmod t783 3) != 0) = false := bne_eq_false_iff_eq.mpr c4
  clear c4
  replace H := Option.bind_eq_some_iff.mp H
  obtain ⟨⟨t785, t786, t789, t792⟩, A50, H⟩ := H
  replace H : (some (t785, t786, t789, t792, t784)) = some (r1, r2, r3, r4, r5) := H
  have A5 := zA A50
  clear A50
  simp only [Option.some.injEq, Prod.mk.injEq] at H
  obtain ⟨rfl, rfl, rfl, rfl, rfl⟩ := H
  go_enter Try.func118, Try.ntmps118
  go_wp2_with (first | ((with_reducible refine gate_dst (N := 2) rfl ?_); refine box_event ?hg (N := 2) ?hd (cs := #[.int .i64 0, .slice none 0 0, .slice none 0 0, .slice none 0 0]) (t := 50) ?hr ?_; (case hd => rfl); (case hg => rfl); (case hr => first | (go_simp; done) | (go_simp; rfl)); intro gb778 hg w6 hbox hb; have n0_ := zA (IsS168.below zq5 hb); have n1_ := zA (KeepBut.trans zq1 (KeepBut.of_below hb g none) (.inl rfl)); have n2_ := zA (below_step (by repeat (first | (with_reducible first | exact HB.out | apply below_alloc | apply pw_below_drewN | apply below_drew1 | refine below_set ?_ (IsS168.ge HI0.out)) | exact HB.out)) hb); have n3_ := zA (hbox); have n4_ := zA ((by rw [hg]; exact (keep_size (w := w) (g := g) (row := none) zq1) : w.heap.size ≤ gb778)); have n5_ := zA ((Nat.le_trans HW0.out (by rw [hg]; exact (keep_size (w := w) (g := g) (row := none) zq1) : w.heap.size ≤ gb778) : w0.heap.size ≤ gb778)); have n6_ := zA ((by rw [hg]; exact Nat.ne_of_lt (IsS168.lt (show IsS168 w0 _ g s0_0 s0_1 from by repeat (first | (with_reducible first | exact HI0.out | apply IsS168.alloc | apply IsS168.drewN | apply IsS168.drew | apply IsS168.set_1) | exact HI0.out))) : g ≠ gb778)); have n7_ := zA ((by rw [hg]; exact Nat.ne_of_gt (IsS168.lt (show IsS168 w0 _ g s0_0 s0_1 from by repeat (first | (with_reducible first | exact HI0.out | apply IsS168.alloc | apply IsS168.drewN | apply IsS168.drew | apply IsS168.set_1) | exact HI0.out))) : gb778 ≠ g)); clear HI0; clear HK; clear HB; have HI0 := n0_; have HK := n1_; have HB := n2_; have BK778 := n3_; have GW778 := n4_; have GE778 := n5_; have NB0_778 := n6_; have NB778_0 := n7_; clear n0_ n1_ n2_ n3_ n4_ n5_ n6_ n7_; clear hb hbox hg) | ((with_reducible refine gate_callee (f := 154) rfl ?_); refine goesL_ (some 6) rfl rfl Try.func154 zq12 rfl #[.pointer (some ⟨g, 0, none⟩), .int .i64 12] rfl zq2 ?_; (with_reducible refine (spec_l4drawLines.calls k g s0_0 s0_1 12 t779 t782 w0 _ ?side1 ?side2 A2.out).mono ?_); (case side1 => repeat (first | (with_reducible first | exact HI0.out | apply IsS168.alloc | apply IsS168.drewN | apply IsS168.drew | apply IsS168.set_1 | refine IsS168.far ?_ NB0_778.out _) | exact HI0.out)); (case side2 => repeat (first | (with_reducible first | exact HB.out | apply below_alloc | apply pw_below_drewN | apply below_drew1 | refine below_set ?_ (IsS168.ge HI0.out) | refine below_set ?_ GE778.out) | exact HB.out)); rintro e w7 ⟨v780, rfl, ho0, hi, hb, hk⟩; refine ⟨_, rfl, ?_⟩; have n0_ := zA (KeepBut.blk hk (g' := gb778) (o := .cells #[.int .i64 0, .slice none 0 0, .slice none 0 0, .slice none 0 0] 50 (0, 0)) (by (with_reducible repeat (first | refine blk_drewN ?_ _ | refine blk_drew ?_ | refine blk_alloc ?_ _)); exact BK778.out) NB778_0.out zq14); have n1_ := zA (Kd.S_lower ho0 (keep_size (w := w) (g := g) (row := none) (by repeat (first | (with_reducible first | exact HK.out | apply KeepBut.set_ | apply keep_drewN | apply keep_drew | apply keep_alloc | refine keep_far ?_ GW778.out _) | exact HK.out)))); have n2_ := zA (KeepBut.trans (by repeat (first | (with_reducible first | exact HK.out | apply KeepBut.set_ | apply keep_drewN | apply keep_drew | apply keep_alloc | refine keep_far ?_ GW778.out _) | exact HK.out)) hk (.inl rfl)); have n3_ := zA (hb); have n4_ := zA (hi); clear BK778; clear HK; clear HB; clear HI0; have BK778 := n0_; have HO781 := n1_; have HK := n2_; have HB := n3_; have HI0 := n4_; clear n0_ n1_ n2_ n3_ n4_; (try clear hb); (try clear hb2); (try clear hk); (try clear hi); (try clear ho0)) | ((with_reducible refine gate_callee (f := 116) rfl ?_); refine goesL_ (some 8) rfl rfl Try.func116 zq12 rfl #[.pointer (some ⟨g, 0, none⟩)] rfl zq2 ?_; (with_reducible refine (spec_l1rd_next.calls g s0_0 t782 t783 t784 w0 _ ?side1 ?side2 A3.out).mono ?_); (case side1 => repeat (first | (with_reducible first | exact HI0.out | apply IsS168.alloc | apply IsS168.drewN | apply IsS168.drew | apply IsS168.set_1 | refine IsS168.far ?_ NB0_778.out _) | exact HI0.out)); (case side2 => repeat (first | (with_reducible first | exact HB.out | apply below_alloc | apply pw_below_drewN | apply below_drew1 | refine below_set ?_ (IsS168.ge HI0.out) | refine below_set ?_ GE778.out) | exact HB.out)); rintro e w8 ⟨rfl, hi, hb, hk⟩; refine ⟨_, rfl, ?_⟩; have n0_ := zA (KeepBut.blk hk (g' := gb778) (o := .cells #[.int .i64 0, .slice none 0 0, .slice none 0 0, .slice none 0 0] 50 (0, 0)) (by (with_reducible repeat (first | refine blk_drewN ?_ _ | refine blk_drew ?_ | refine blk_alloc ?_ _)); exact BK778.out) NB778_0.out zq14); have n1_ := zA (Kd.S_mono (Kd.S_keep (IsS168.apartS (show IsS168 w0 _ g s0_0 t782 from by repeat (first | (with_reducible first | exact HI0.out | apply IsS168.alloc | apply IsS168.drewN | apply IsS168.drew | apply IsS168.set_1 | refine IsS168.far ?_ NB0_778.out _) | exact HI0.out)) zq25 zq13) hk (fun _ h => h.2)) (fun _ h => h.1)); have n2_ := zA (KeepBut.trans (by repeat (first | (with_reducible first | exact HK.out | apply KeepBut.set_ | apply keep_drewN | apply keep_drew | apply keep_alloc | refine keep_far ?_ GW778.out _) | exact HK.out)) hk (.inl rfl)); have n3_ := zA (hb); have n4_ := zA (hi); clear BK778; clear HO781; clear HK; clear HB; clear HI0; have BK778 := n0_; have HO781 := n1_; have HK := n2_; have HB := n3_; have HI0 := n4_; clear n0_ n1_ n2_ n3_ n4_; (try clear hb); (try clear hb2); (try clear hk); (try clear hi); obtain ⟨Ao9, co9, eo9⟩ := Kd.S_slice HO781.out; subst eo9) | ((with_reducible refine gate_callee (f := 92) rfl ?_); refine goesL_ (some 14) rfl rfl Try.func92 zq12 rfl #[.int .i64 0, .slice Ao9 t779.length co9] rfl zq2 ?_; (with_reducible refine (spec_l4build.calls k 0 _ _ t779 t785 t786 t789 t792 _ ?side1 ?side2 A5.out).mono ?_); (case side1 => repeat (first | exact (Kd.S_reads' HO781.out).2.2 | (with_reducible refine Kd.C_alloc ?_ _) | (with_reducible refine Kd.C_drewN ?_ _) | (with_reducible refine Kd.C_drew ?_))); (case side2 => exact (Kd.S_reads' HO781.out).2.1); rintro e w10 ⟨v787, v790, v793, rfl, ho0, ho1, ho2, hb⟩; refine ⟨_, rfl, ?_⟩; have n0_ := zA (Kd.S_elder' zq25 (Kd.S_base ho0) hb); have n1_ := zA (Kd.S_lower (Kd.S_new' ho0 (Kd.S_lt zq25)) (keep_size (w := w) (g := g) (row := none) (by repeat (first | (with_reducible first | exact HK.out | apply KeepBut.set_ | apply keep_drewN | apply keep_drew | apply keep_alloc | refine keep_far ?_ GW778.out _) | exact HK.out)))); have n2_ := zA (Kd.R_lower ho1 (keep_size (w := w) (g := g) (row := none) (by repeat (first | (with_reducible first | exact HK.out | apply KeepBut.set_ | apply keep_drewN | apply keep_drew | apply keep_alloc | refine keep_far ?_ GW778.out _) | exact HK.out)))); have n3_ := zA (Kd.S_lower ho2 (keep_size (w := w) (g := g) (row := none) (by repeat (first | (with_reducible first | exact HK.out | apply KeepBut.set_ | apply keep_drewN | apply keep_drew | apply keep_alloc | refine keep_far ?_ GW778.out _) | exact HK.out)))); have n4_ := zA (IsS168.below (by repeat (first | (with_reducible first | exact HI0.out | apply IsS168.alloc | apply IsS168.drewN | apply IsS168.drew | apply IsS168.set_1 | refine IsS168.far ?_ NB0_778.out _) | exact HI0.out)) hb); have n5_ := zA (blk_below (g := gb778) (o := .cells #[.int .i64 0, .slice none 0 0, .slice none 0 0, .slice none 0 0] 50 (0, 0)) (by (with_reducible repeat (first | refine blk_drewN ?_ _ | refine blk_drew ?_ | refine blk_alloc ?_ _)); exact BK778.out) hb); have n6_ := zA (KeepBut.trans (by repeat (first | (with_reducible first | exact HK.out | apply KeepBut.set_ | apply keep_drewN | apply keep_drew | apply keep_alloc | refine keep_far ?_ GW778.out _) | exact HK.out)) (KeepBut.of_below hb g none) (.inl rfl)); have n7_ := zA (below_step (by repeat (first | (with_reducible first | exact HB.out | apply below_alloc | apply pw_below_drewN | apply below_drew1 | refine below_set ?_ (IsS168.ge HI0.out) | refine below_set ?_ GE778.out) | exact HB.out)) hb); clear HO781; clear HI0; clear BK778; clear HK; clear HB; have HO781 := n0_; have HO788 := n1_; have HO791 := n2_; have HO794 := n3_; have HI0 := n4_; have BK778 := n5_; have HK := n6_; have HB := n7_; clear n0_ n1_ n2_ n3_ n4_ n5_ n6_ n7_; (try clear hb); (try clear hb2); (try clear hk); (try clear hi); (try clear ho0); (try clear ho1); (try clear ho2); have hnb11 := NB778_0.out; have hnc11 := NB0_778.out; have hcz12_0 : w10.cell? ⟨gb778, 0, none⟩ = some (.int .i64 0) := (blk_cell BK778.out 0).trans rfl; have hcz12_1 : w10.cell? ⟨gb778, 1, none⟩ = some (.slice none 0 0) := (blk_cell BK778.out 1).trans rfl; have hcz12_2 : w10.cell? ⟨gb778, 2, none⟩ = some (.slice none 0 0) := (blk_cell BK778.out 2).trans rfl; have hcz12_3 : w10.cell? ⟨gb778, 3, none⟩ = some (.slice none 0 0) := (blk_cell BK778.out 3).trans rfl; have hfz12_0 := blk_frozen BK778.out 0; have hfz12_1 := blk_frozen BK778.out 1; have hfz12_2 := blk_frozen BK778.out 2; have hfz12_3 := blk_frozen BK778.out 3; obtain ⟨Ao13, co13, eo13⟩ := Kd.S_slice HO788.out; subst eo13; obtain ⟨Ao14, co14, eo14⟩ := Kd.R_slice HO791.out; subst eo14; obtain ⟨Ao15, co15, eo15⟩ := Kd.S_slice HO794.out; subst eo15))
  refine bodyPost_ret (results_cell_row rfl _ _ gb778 50 #[.int .i64 t785, .slice Ao13 t786.length co13, .slice Ao14 t789.length co14, .slice Ao15 t792.length co15] (0, 0) _ rfl (by (with_reducible repeat (first | refine blk_drewN ?_ _ | refine blk_drew ?_ | refine blk_alloc ?_ _)); refine blk_put (cs := #[.int .i64 t785, .slice Ao13 t786.length co13, .slice Ao14 t789.length co14, .slice none 0 0]) ?_ 3 _ rfl; (with_reducible repeat (first | refine blk_drewN ?_ _ | refine blk_drew ?_ | refine blk_alloc ?_ _)); refine blk_put (cs := #[.int .i64 t785, .slice Ao13 t786.length co13, .slice none 0 0, .slice none 0 0]) ?_ 2 _ rfl; (with_reducible repeat (first | refine blk_drewN ?_ _ | refine blk_drew ?_ | refine blk_alloc ?_ _)); refine blk_put (cs := #[.int .i64 t785, .slice none 0 0, .slice none 0 0, .slice none 0 0]) ?_ 1 _ rfl; (with_reducible repeat (first | refine blk_drewN ?_ _ | refine blk_drew ?_ | refine blk_alloc ?_ _)); refine blk_put (cs := #[.int .i64 0, .slice none 0 0, .slice none 0 0, .slice none 0 0]) ?_ 0 _ rfl; (with_reducible repeat (first | refine blk_drewN ?_ _ | refine blk_drew ?_ | refine blk_alloc ?_ _)); exact BK778.out) Try.underlying50 rfl zq12) rfl ?_
  exact ⟨_, _, _, zq9, by (with_reducible repeat (first | apply Kd.S_alloc | apply Kd.S_drewN | apply Kd.S_drew)); exact Kd.S_mono (Kd.S_far (p := ⟨gb778, 3, none⟩) (Kd.S_far (p := ⟨gb778, 2, none⟩) (Kd.S_far (p := ⟨gb778, 1, none⟩) (Kd.S_far (p := ⟨gb778, 0, none⟩) (Kd.S_types HO788.out BK778.out zq13) (fun _ hk => hk.2) (.int .i64 t785)) (fun _ hk => hk.2) (.slice Ao13 t786.length co13)) (fun _ hk => hk.2) (.slice Ao14 t789.length co14)) (fun _ hk => hk.2) (.slice Ao15 t792.length co15)) (fun _ hk => trivial), by (with_reducible repeat (first | apply Kd.R_alloc | apply Kd.R_drewN | apply Kd.R_drew)); exact Kd.R_mono (Kd.R_far (p := ⟨gb778, 3, none⟩) (Kd.R_far (p := ⟨gb778, 2, none⟩) (Kd.R_far (p := ⟨gb778, 1, none⟩) (Kd.R_far (p := ⟨gb778, 0, none⟩) (Kd.R_types HO791.out BK778.out zq13) (fun _ hk => hk.2) (.int .i64 t785)) (fun _ hk => hk.2) (.slice Ao13 t786.length co13)) (fun _ hk => hk.2) (.slice Ao14 t789.length co14)) (fun _ hk => hk.2) (.slice Ao15 t792.length co15)) (fun _ hk => trivial), by (with_reducible repeat (first | apply Kd.S_alloc | apply Kd.S_drewN | apply Kd.S_drew)); exact Kd.S_mono (Kd.S_far (p := ⟨gb778, 3, none⟩) (Kd.S_far (p := ⟨gb778, 2, none⟩) (Kd.S_far (p := ⟨gb778, 1, none⟩) (Kd.S_far (p := ⟨gb778, 0, none⟩) (Kd.S_types HO794.out BK778.out zq13) (fun _ hk => hk.2) (.int .i64 t785)) (fun _ hk => hk.2) (.slice Ao13 t786.length co13)) (fun _ hk => hk.2) (.slice Ao14 t789.length co14)) (fun _ hk => hk.2) (.slice Ao15 t792.length co15)) (fun _ hk => hk.1), by repeat (first | (with_reducible first | exact HI0.out | apply IsS168.alloc | apply IsS168.drewN | apply IsS168.drew | apply IsS168.set_1 | refine IsS168.far ?_ NB0_778.out _) | exact HI0.out), by repeat (first | (with_reducible first | exact HB.out | apply below_alloc | apply pw_below_drewN | apply below_drew1 | refine below_set ?_ (IsS168.ge HI0.out) | refine below_set ?_ GE778.out) | exact HB.out), by repeat (first | (with_reducible first | exact HK.out | apply KeepBut.set_ | apply keep_drewN | apply keep_drew | apply keep_alloc | refine keep_far ?_ GW778.out _) | exact HK.out)⟩
 ·rw [if_neg c4] at H
  have c4b0 : ((Int.tmod t783 3) == 0) = false := beq_eq_false_iff_ne.mpr c4
  have c4b1 : ((Int.tmod t783 3) != 0) = true := bne_iff_ne.mpr c4
  replace H := Option.bind_eq_some_iff.mp H
  obtain ⟨⟨t795, t796, t799, t802⟩, A160, H⟩ := H
  replace H : (some (t795, t796, t799, t802, t784)) = some (r1, r2, r3, r4, r5) := H
  have A16 := zA A160
  clear A160
  simp only [Option.some.injEq, Prod.mk.injEq] at H
  obtain ⟨rfl, rfl, rfl, rfl, rfl⟩ := H
  go_enter Try.func118, Try.ntmps118
  go_wp2_with (first | ((with_reducible refine gate_dst (N := 2) rfl ?_); refine box_event ?hg (N := 2) ?hd (cs := #[.int .i64 0, .slice none 0 0, .slice none 0 0, .slice none 0 0]) (t := 50) ?hr ?_; (case hd => rfl); (case hg => rfl); (case hr => first | (go_simp; done) | (go_simp; rfl)); intro gb778 hg w17 hbox hb; have n0_ := zA (IsS168.below zq5 hb); have n1_ := zA (KeepBut.trans zq1 (KeepBut.of_below hb g none) (.inl rfl)); have n2_ := zA (below_step (by repeat (first | (with_reducible first | exact HB.out | apply below_alloc | apply pw_below_drewN | apply below_drew1 | refine below_set ?_ (IsS168.ge HI0.out)) | exact HB.out)) hb); have n3_ := zA (hbox); have n4_ := zA ((by rw [hg]; exact (keep_size (w := w) (g := g) (row := none) zq1) : w.heap.size ≤ gb778)); have n5_ := zA ((Nat.le_trans HW0.out (by rw [hg]; exact (keep_size (w := w) (g := g) (row := none) zq1) : w.heap.size ≤ gb778) : w0.heap.size ≤ gb778)); have n6_ := zA ((by rw [hg]; exact Nat.ne_of_lt (IsS168.lt (show IsS168 w0 _ g s0_0 s0_1 from by repeat (first | (with_reducible first | exact HI0.out | apply IsS168.alloc | apply IsS168.drewN | apply IsS168.drew | apply IsS168.set_1) | exact HI0.out))) : g ≠ gb778)); have n7_ := zA ((by rw [hg]; exact Nat.ne_of_gt (IsS168.lt (show IsS168 w0 _ g s0_0 s0_1 from by repeat (first | (with_reducible first | exact HI0.out | apply IsS168.alloc | apply IsS168.drewN | apply IsS168.drew | apply IsS168.set_1) | exact HI0.out))) : gb778 ≠ g)); clear HI0; clear HK; clear HB; have HI0 := n0_; have HK := n1_; have HB := n2_; have BK778 := n3_; have GW778 := n4_; have GE778 := n5_; have NB0_778 := n6_; have NB778_0 := n7_; clear n0_ n1_ n2_ n3_ n4_ n5_ n6_ n7_; clear hb hbox hg) | ((with_reducible refine gate_callee (f := 154) rfl ?_); refine goesL_ (some 6) rfl rfl Try.func154 zq12 rfl #[.pointer (some ⟨g, 0, none⟩), .int .i64 12] rfl zq2 ?_; (with_reducible refine (spec_l4drawLines.calls k g s0_0 s0_1 12 t779 t782 w0 _ ?side1 ?side2 A2.out).mono ?_); (case side1 => repeat (first | (with_reducible first | exact HI0.out | apply IsS168.alloc | apply IsS168.drewN | apply IsS168.drew | apply IsS168.set_1 | refine IsS168.far ?_ NB0_778.out _) | exact HI0.out)); (case side2 => repeat (first | (with_reducible first | exact HB.out | apply below_alloc | apply pw_below_drewN | apply below_drew1 | refine below_set ?_ (IsS168.ge HI0.out) | refine below_set ?_ GE778.out) | exact HB.out)); rintro e w18 ⟨v780, rfl, ho0, hi, hb, hk⟩; refine ⟨_, rfl, ?_⟩; have n0_ := zA (KeepBut.blk hk (g' := gb778) (o := .cells #[.int .i64 0, .slice none 0 0, .slice none 0 0, .slice none 0 0] 50 (0, 0)) (by (with_reducible repeat (first | refine blk_drewN ?_ _ | refine blk_drew ?_ | refine blk_alloc ?_ _)); exact BK778.out) NB778_0.out zq14); have n1_ := zA (Kd.S_lower ho0 (keep_size (w := w) (g := g) (row := none) (by repeat (first | (with_reducible first | exact HK.out | apply KeepBut.set_ | apply keep_drewN | apply keep_drew | apply keep_alloc | refine keep_far ?_ GW778.out _) | exact HK.out)))); have n2_ := zA (KeepBut.trans (by repeat (first | (with_reducible first | exact HK.out | apply KeepBut.set_ | apply keep_drewN | apply keep_drew | apply keep_alloc | refine keep_far ?_ GW778.out _) | exact HK.out)) hk (.inl rfl)); have n3_ := zA (hb); have n4_ := zA (hi); clear BK778; clear HK; clear HB; clear HI0; have BK778 := n0_; have HO781 := n1_; have HK := n2_; have HB := n3_; have HI0 := n4_; clear n0_ n1_ n2_ n3_ n4_; (try clear hb); (try clear hb2); (try clear hk); (try clear hi); (try clear ho0)) | ((with_reducible refine gate_callee (f := 116) rfl ?_); refine goesL_ (some 8) rfl rfl Try.func116 zq12 rfl #[.pointer (some ⟨g, 0, none⟩)] rfl zq2 ?_; (with_reducible refine (spec_l1rd_next.calls g s0_0 t782 t783 t784 w0 _ ?side1 ?side2 A3.out).mono ?_); (case side1 => repeat (first | (with_reducible first | exact HI0.out | apply IsS168.alloc | apply IsS168.drewN | apply IsS168.drew | apply IsS168.set_1 | refine IsS168.far ?_ NB0_778.out _) | exact HI0.out)); (case side2 => repeat (first | (with_reducible first | exact HB.out | apply below_alloc | apply pw_below_drewN | apply below_drew1 | refine below_set ?_ (IsS168.ge HI0.out) | refine below_set ?_ GE778.out) | exact HB.out)); rintro e w19 ⟨rfl, hi, hb, hk⟩; refine ⟨_, rfl, ?_⟩; have n0_ := zA (KeepBut.blk hk (g' := gb778) (o := .cells #[.int .i64 0, .slice none 0 0, .slice none 0 0, .slice none 0 0] 50 (0, 0)) (by (with_reducible repeat (first | refine blk_drewN ?_ _ | refine blk_drew ?_ | refine blk_alloc ?_ _)); exact BK778.out) NB778_0.out zq14); have n1_ := zA (Kd.S_mono (Kd.S_keep (IsS168.apartS (show IsS168 w0 _ g s0_0 t782 from by repeat (first | (with_reducible first | exact HI0.out | apply IsS168.alloc | apply IsS168.drewN | apply IsS168.drew | apply IsS168.set_1 | refine IsS168.far ?_ NB0_778.out _) | exact HI0.out)) zq25 zq13) hk (fun _ h => h.2)) (fun _ h => h.1)); have n2_ := zA (KeepBut.trans (by repeat (first | (with_reducible first | exact HK.out | apply KeepBut.set_ | apply keep_drewN | apply keep_drew | apply keep_alloc | refine keep_far ?_ GW778.out _) | exact HK.out)) hk (.inl rfl)); have n3_ := zA (hb); have n4_ := zA (hi); clear BK778; clear HO781; clear HK; clear HB; clear HI0; have BK778 := n0_; have HO781 := n1_; have HK := n2_; have HB := n3_; have HI0 := n4_; clear n0_ n1_ n2_ n3_ n4_; (try clear hb); (try clear hb2); (try clear hk); (try clear hi); obtain ⟨Ao20, co20, eo20⟩ := Kd.S_slice HO781.out; subst eo20) | ((with_reducible refine gate_callee (f := 92) rfl ?_); refine goesL_ (some 14) rfl rfl Try.func92 zq12 rfl #[.int .i64 t783, .slice Ao20 t779.length co20] rfl zq2 ?_; (with_reducible refine (spec_l4build.calls k t783 _ _ t779 t795 t796 t799 t802 _ ?side1 ?side2 A16.out).mono ?_); (case side1 => repeat (first | exact (Kd.S_reads' HO781.out).2.2 | (with_reducible refine Kd.C_alloc ?_ _) | (with_reducible refine Kd.C_drewN ?_ _) | (with_reducible refine Kd.C_drew ?_))); (case side2 => exact (Kd.S_reads' HO781.out).2.1); rintro e w21 ⟨v797, v800, v803, rfl, ho0, ho1, ho2, hb⟩; refine ⟨_, rfl, ?_⟩; have n0_ := zA (Kd.S_elder' zq25 (Kd.S_base ho0) hb); have n1_ := zA (Kd.S_lower (Kd.S_new' ho0 (Kd.S_lt zq25)) (keep_size (w := w) (g := g) (row := none) (by repeat (first | (with_reducible first | exact HK.out | apply KeepBut.set_ | apply keep_drewN | apply keep_drew | apply keep_alloc | refine keep_far ?_ GW778.out _) | exact HK.out)))); have n2_ := zA (Kd.R_lower ho1 (keep_size (w := w) (g := g) (row := none) (by repeat (first | (with_reducible first | exact HK.out | apply KeepBut.set_ | apply keep_drewN | apply keep_drew | apply keep_alloc | refine keep_far ?_ GW778.out _) | exact HK.out)))); have n3_ := zA (Kd.S_lower ho2 (keep_size (w := w) (g := g) (row := none) (by repeat (first | (with_reducible first | exact HK.out | apply KeepBut.set_ | apply keep_drewN | apply keep_drew | apply keep_alloc | refine keep_far ?_ GW778.out _) | exact HK.out)))); have n4_ := zA (IsS168.below (by repeat (first | (with_reducible first | exact HI0.out | apply IsS168.alloc | apply IsS168.drewN | apply IsS168.drew | apply IsS168.set_1 | refine IsS168.far ?_ NB0_778.out _) | exact HI0.out)) hb); have n5_ := zA (blk_below (g := gb778) (o := .cells #[.int .i64 0, .slice none 0 0, .slice none 0 0, .slice none 0 0] 50 (0, 0)) (by (with_reducible repeat (first | refine blk_drewN ?_ _ | refine blk_drew ?_ | refine blk_alloc ?_ _)); exact BK778.out) hb); have n6_ := zA (KeepBut.trans (by repeat (first | (with_reducible first | exact HK.out | apply KeepBut.set_ | apply keep_drewN | apply keep_drew | apply keep_alloc | refine keep_far ?_ GW778.out _) | exact HK.out)) (KeepBut.of_below hb g none) (.inl rfl)); have n7_ := zA (below_step (by repeat (first | (with_reducible first | exact HB.out | apply below_alloc | apply pw_below_drewN | apply below_drew1 | refine below_set ?_ (IsS168.ge HI0.out) | refine below_set ?_ GE778.out) | exact HB.out)) hb); clear HO781; clear HI0; clear BK778; clear HK; clear HB; have HO781 := n0_; have HO798 := n1_; have HO801 := n2_; have HO804 := n3_; have HI0 := n4_; have BK778 := n5_; have HK := n6_; have HB := n7_; clear n0_ n1_ n2_ n3_ n4_ n5_ n6_ n7_; (try clear hb); (try clear hb2); (try clear hk); (try clear hi); (try clear ho0); (try clear ho1); (try clear ho2); have hnb22 := NB778_0.out; have hnc22 := NB0_778.out; have hcz23_0 : w21.cell? ⟨gb778, 0, none⟩ = some (.int .i64 0) := (blk_cell BK778.out 0).trans rfl; have hcz23_1 : w21.cell? ⟨gb778, 1, none⟩ = some (.slice none 0 0) := (blk_cell BK778.out 1).trans rfl; have hcz23_2 : w21.cell? ⟨gb778, 2, none⟩ = some (.slice none 0 0) := (blk_cell BK778.out 2).trans rfl; have hcz23_3 : w21.cell? ⟨gb778, 3, none⟩ = some (.slice none 0 0) := (blk_cell BK778.out 3).trans rfl; have hfz23_0 := blk_frozen BK778.out 0; have hfz23_1 := blk_frozen BK778.out 1; have hfz23_2 := blk_frozen BK778.out 2; have hfz23_3 := blk_frozen BK778.out 3; obtain ⟨Ao24, co24, eo24⟩ := Kd.S_slice HO798.out; subst eo24; obtain ⟨Ao25, co25, eo25⟩ := Kd.R_slice HO801.out; subst eo25; obtain ⟨Ao26, co26, eo26⟩ := Kd.S_slice HO804.out; subst eo26))
  refine bodyPost_ret (results_cell_row rfl _ _ gb778 50 #[.int .i64 t795, .slice Ao24 t796.length co24, .slice Ao25 t799.length co25, .slice Ao26 t802.length co26] (0, 0) _ rfl (by (with_reducible repeat (first | refine blk_drewN ?_ _ | refine blk_drew ?_ | refine blk_alloc ?_ _)); refine blk_put (cs := #[.int .i64 t795, .slice Ao24 t796.length co24, .slice Ao25 t799.length co25, .slice none 0 0]) ?_ 3 _ rfl; (with_reducible repeat (first | refine blk_drewN ?_ _ | refine blk_drew ?_ | refine blk_alloc ?_ _)); refine blk_put (cs := #[.int .i64 t795, .slice Ao24 t796.length co24, .slice none 0 0, .slice none 0 0]) ?_ 2 _ rfl; (with_reducible repeat (first | refine blk_drewN ?_ _ | refine blk_drew ?_ | refine blk_alloc ?_ _)); refine blk_put (cs := #[.int .i64 t795, .slice none 0 0, .slice none 0 0, .slice none 0 0]) ?_ 1 _ rfl; (with_reducible repeat (first | refine blk_drewN ?_ _ | refine blk_drew ?_ | refine blk_alloc ?_ _)); refine blk_put (cs := #[.int .i64 0, .slice none 0 0, .slice none 0 0, .slice none 0 0]) ?_ 0 _ rfl; (with_reducible repeat (first | refine blk_drewN ?_ _ | refine blk_drew ?_ | refine blk_alloc ?_ _)); exact BK778.out) Try.underlying50 rfl zq12) rfl ?_
  exact ⟨_, _, _, zq9, by (with_reducible repeat (first | apply Kd.S_alloc | apply Kd.S_drewN | apply Kd.S_drew)); exact Kd.S_mono (Kd.S_far (p := ⟨gb778, 3, none⟩) (Kd.S_far (p := ⟨gb778, 2, none⟩) (Kd.S_far (p := ⟨gb778, 1, none⟩) (Kd.S_far (p := ⟨gb778, 0, none⟩) (Kd.S_types HO798.out BK778.out zq13) (fun _ hk => hk.2) (.int .i64 t795)) (fun _ hk => hk.2) (.slice Ao24 t796.length co24)) (fun _ hk => hk.2) (.slice Ao25 t799.length co25)) (fun _ hk => hk.2) (.slice Ao26 t802.length co26)) (fun _ hk => trivial), by (with_reducible repeat (first | apply Kd.R_alloc | apply Kd.R_drewN | apply Kd.R_drew)); exact Kd.R_mono (Kd.R_far (p := ⟨gb778, 3, none⟩) (Kd.R_far (p := ⟨gb778, 2, none⟩) (Kd.R_far (p := ⟨gb778, 1, none⟩) (Kd.R_far (p := ⟨gb778, 0, none⟩) (Kd.R_types HO801.out BK778.out zq13) (fun _ hk => hk.2) (.int .i64 t795)) (fun _ hk => hk.2) (.slice Ao24 t796.length co24)) (fun _ hk => hk.2) (.slice Ao25 t799.length co25)) (fun _ hk => hk.2) (.slice Ao26 t802.length co26)) (fun _ hk => trivial), by (with_reducible repeat (first | apply Kd.S_alloc | apply Kd.S_drewN | apply Kd.S_drew)); exact Kd.S_mono (Kd.S_far (p := ⟨gb778, 3, none⟩) (Kd.S_far (p := ⟨gb778, 2, none⟩) (Kd.S_far (p := ⟨gb778, 1, none⟩) (Kd.S_far (p := ⟨gb778, 0, none⟩) (Kd.S_types HO804.out BK778.out zq13) (fun _ hk => hk.2) (.int .i64 t795)) (fun _ hk => hk.2) (.slice Ao24 t796.length co24)) (fun _ hk => hk.2) (.slice Ao25 t799.length co25)) (fun _ hk => hk.2) (.slice Ao26 t802.length co26)) (fun _ hk => hk.1), by repeat (first | (with_reducible first | exact HI0.out | apply IsS168.alloc | apply IsS168.drewN | apply IsS168.drew | apply IsS168.set_1 | refine IsS168.far ?_ NB0_778.out _) | exact HI0.out), by repeat (first | (with_reducible first | exact HB.out | apply below_alloc | apply pw_below_drewN | apply below_drew1 | refine below_set ?_ (IsS168.ge HI0.out) | refine below_set ?_ GE778.out) | exact HB.out), by repeat (first | (with_reducible first | exact HK.out | apply KeepBut.set_ | apply keep_drewN | apply keep_drew | apply keep_alloc | refine keep_far ?_ GW778.out _) | exact HK.out)⟩
end Go.Proofs.Ytmgmdnmfalepkaa.L
