/- Parts of the proof (see the row's own text): Ltri. -/
import Derived.Test.YtmgmdnmfalepkaaG00
import Derived.Test.YtmgmdnmfalepkaaG4
namespace Go.Proofs.Ytmgmdnmfalepkaa.L
open Go.RowKit Go.Proofs.YtmgmdnmfalepkaaW.PrintWords Go.Proofs.YtmgmdnmfalepkaaW.PrintLast Go.Proofs.YtmgmdnmfalepkaaW.PrintMore
attribute [local go_sem] max2_int min2_int max_two min_two max_three min_three max_four min_four
set_option linter.unusedVariables false
set_option linter.unusedSimpArgs false
def spec_l3num.f (a0 : Int) (a1 : Int) (a2 : Int) : Option (Int) := some (wrap64 ((wrap64 ((wrap64 (a0 * 65536)) + (wrap64 (a1 * 256)))) + a2))
set_option maxHeartbeats 8000000 in
set_option maxRecDepth 100000 in
theorem spec_l3num.calls (a0 : Int) (a1 : Int) (a2 : Int) (r : Int) (w : World) (h : spec_l3num.f a0 a1 a2 = some r) :
  Calls Try.prog 72 #[.int .i64 a0, .int .i64 a1, .int .i64 a2] w fun e w' => e = .returned (.int .i64 r) ∧ Drawn0 w w' := by
 have H : (some (wrap64 ((wrap64 ((wrap64 (a0 * 65536)) + (wrap64 (a1 * 256)))) + a2))) = some r := h
 clear h
 obtain rfl := Option.some.inj H
 go_enter Try.func72, Try.ntmps72
 go_wp2
 go_ret
 exact ⟨zq6, zq10⟩
mutual
def spec_l3order.l0 : Nat → List Int → List Int → List Int → Int → Int → Option (List Int)
 | 0, _, _, _, _, _ => none
 | k + 1, x4, x5, x6, x7, x8 => if x7 < (x4.length : Int) then (spec_l3order.j1 k x4 x5 x6 x7 x8 true) else (spec_l3order.j1 k x4 x5 x6 x7 x8 (decide (x8 < (x5.length : Int))))
def spec_l3order.j1 : Nat → List Int → List Int → List Int → Int → Int → Bool → Option (List Int)
 | 0, _, _, _, _, _, _ => none
 | k + 1, x4, x5, x6, x7, x8, x37 => if x37 = true then (if x8 ≥ (x5.length : Int) then (spec_l3order.j2 k x4 x5 x6 x7 x8 true) else (if x7 < (x4.length : Int) then (if 0 ≤ x7 then (if 0 ≤ x8 then (if x8 < (x5.length : Int) then (spec_l3order.j2 k x4 x5 x6 x7 x8 (decide ((rd x4 x7) ≤ (rd x5 x8)))) else (none)) else (none)) else (none)) else (spec_l3order.j2 k x4 x5 x6 x7 x8 false))) else (some x6)
def spec_l3order.j2 : Nat → List Int → List Int → List Int → Int → Int → Bool → Option (List Int)
 | 0, _, _, _, _, _, _ => none
 | k + 1, x4, x5, x6, x7, x8, x58 => if x58 = true then (if 0 ≤ x7 then (if x7 < (x4.length : Int) then (if (x6.length : Int) = 0 then (if x6.length < 17592186044416 then (spec_l3order.l0 k x4 x5 (x6 ++ [rd x4 x7]) (wrap64 (x7 + 1)) x8) else (none)) else (if 0 ≤ (wrap64 ((x6.length : Int) - 1)) then (if (wrap64 ((x6.length : Int) - 1)) < (x6.length : Int) then (if (rd x6 (wrap64 ((x6.length : Int) - 1))) = (rd x4 x7) then (spec_l3order.l0 k x4 x5 x6 (wrap64 (x7 + 1)) x8) else (if x6.length < 17592186044416 then (spec_l3order.l0 k x4 x5 (x6 ++ [rd x4 x7]) (wrap64 (x7 + 1)) x8) else (none))) else (none)) else (none))) else (none)) else (none)) else (if 0 ≤ x8 then (if x8 < (x5.length : Int) then (if (x6.length : Int) = 0 then (if x6.length < 17592186044416 then (spec_l3order.l0 k x4 x5 (x6 ++ [rd x5 x8]) x7 (wrap64 (x8 + 1))) else (none)) else (if 0 ≤ (wrap64 ((x6.length : Int) - 1)) then (if (wrap64 ((x6.length : Int) - 1)) < (x6.length : Int) then (if (rd x6 (wrap64 ((x6.length : Int) - 1))) = (rd x5 x8) then (spec_l3order.l0 k x4 x5 x6 x7 (wrap64 (x8 + 1))) else (if x6.length < 17592186044416 then (spec_l3order.l0 k x4 x5 (x6 ++ [rd x5 x8]) x7 (wrap64 (x8 + 1))) else (none))) else (none)) else (none))) else (none)) else (none))
def spec_l3order.f : Nat → List Int → Option (List Int)
 | 0, _ => none
 | k + 1, l0 => if (l0.length : Int) < 2 then (if ([] : List Int).length + l0.length < 17592186044416 then (some (([] : List Int) ++ l0)) else (none)) else (if 0 ≤ (wrap64 ((l0.length : Int) / 2)) then (if (wrap64 ((l0.length : Int) / 2)) ≤ (l0.length : Int) then ((spec_l3order.f k (l0.take ((wrap64 ((l0.length : Int) / 2)) : Int).toNat)).bind fun t193 => ((spec_l3order.f k (l0.drop ((wrap64 ((l0.length : Int) / 2)) : Int).toNat)).bind fun t197 => (spec_l3order.l0 k t193 t197 ([] : List Int) 0 0))) else (none)) else (none))
end
theorem spec_l3order.mono_l : ∀ k, (∀ y0, LeO (spec_l3order.f k y0) (spec_l3order.f (k + 1) y0)) ∧ (∀ y0 y1 y2 y3 y4, LeO (spec_l3order.l0 k y0 y1 y2 y3 y4) (spec_l3order.l0 (k + 1) y0 y1 y2 y3 y4)) ∧ (∀ y0 y1 y2 y3 y4 y5, LeO (spec_l3order.j1 k y0 y1 y2 y3 y4 y5) (spec_l3order.j1 (k + 1) y0 y1 y2 y3 y4 y5)) ∧ (∀ y0 y1 y2 y3 y4 y5, LeO (spec_l3order.j2 k y0 y1 y2 y3 y4 y5) (spec_l3order.j2 (k + 1) y0 y1 y2 y3 y4 y5))
 | 0 => ⟨fun _ r h => by simp [spec_l3order.f] at h, fun _ _ _ _ _ r h => by simp [spec_l3order.l0] at h, fun _ _ _ _ _ _ r h => by simp [spec_l3order.j1] at h, fun _ _ _ _ _ _ r h => by simp [spec_l3order.j2] at h⟩
 | k + 1 => by
  obtain ⟨ih0, ih1, ih2, ih3⟩ := spec_l3order.mono_l k
  refine ⟨?_, ?_, ?_, ?_⟩
  ·intro y0
   unfold spec_l3order.f
   repeat' first
   | (with_reducible exact ih0 _)
   | (with_reducible exact ih1 _ _ _ _ _)
   | (with_reducible exact ih2 _ _ _ _ _ _)
   | (with_reducible exact ih3 _ _ _ _ _ _)
   | (with_reducible exact LeO.refl _)
   | (with_reducible exact LeO.none _)
   | (with_reducible refine LeO.ite ?_ ?_)
   | (with_reducible refine LeO.bind ?_ (fun _ => ?_))
   | exact ih0 _
   | exact ih1 _ _ _ _ _
   | exact ih2 _ _ _ _ _ _
   | exact ih3 _ _ _ _ _ _
   | exact LeO.none _
   | refine LeO.ite ?_ ?_
   | refine LeO.bind ?_ (fun _ => ?_)
  ·intro y0 y1 y2 y3 y4
   unfold spec_l3order.l0
   repeat' first
   | (with_reducible exact ih0 _)
   | (with_reducible exact ih1 _ _ _ _ _)
   | (with_reducible exact ih2 _ _ _ _ _ _)
   | (with_reducible exact ih3 _ _ _ _ _ _)
   | (with_reducible exact LeO.refl _)
   | (with_reducible exact LeO.none _)
   | (with_reducible refine LeO.ite ?_ ?_)
   | (with_reducible refine LeO.bind ?_ (fun _ => ?_))
   | exact ih0 _
   | exact ih1 _ _ _ _ _
   | exact ih2 _ _ _ _ _ _
   | exact ih3 _ _ _ _ _ _
   | exact LeO.none _
   | refine LeO.ite ?_ ?_
   | refine LeO.bind ?_ (fun _ => ?_)
  ·intro y0 y1 y2 y3 y4 y5
   unfold spec_l3order.j1
   repeat' first
   | (with_reducible exact ih0 _)
   | (with_reducible exact ih1 _ _ _ _ _)
   | (with_reducible exact ih2 _ _ _ _ _ _)
   | (with_reducible exact ih3 _ _ _ _ _ _)
   | (with_reducible exact LeO.refl _)
   | (with_reducible exact LeO.none _)
   | (with_reducible refine LeO.ite ?_ ?_)
   | (with_reducible refine LeO.bind ?_ (fun _ => ?_))
   | exact ih0 _
   | exact ih1 _ _ _ _ _
   | exact ih2 _ _ _ _ _ _
   | exact ih3 _ _ _ _ _ _
   | exact LeO.none _
   | refine LeO.ite ?_ ?_
   | refine LeO.bind ?_ (fun _ => ?_)
  ·intro y0 y1 y2 y3 y4 y5
   unfold spec_l3order.j2
   repeat' first
   | (with_reducible exact ih0 _)
   | (with_reducible exact ih1 _ _ _ _ _)
   | (with_reducible exact ih2 _ _ _ _ _ _)
   | (with_reducible exact ih3 _ _ _ _ _ _)
   | (with_reducible exact LeO.refl _)
   | (with_reducible exact LeO.none _)
   | (with_reducible refine LeO.ite ?_ ?_)
   | (with_reducible refine LeO.bind ?_ (fun _ => ?_))
   | exact ih0 _
   | exact ih1 _ _ _ _ _
   | exact ih2 _ _ _ _ _ _
   | exact ih3 _ _ _ _ _ _
   | exact LeO.none _
   | refine LeO.ite ?_ ?_
   | refine LeO.bind ?_ (fun _ => ?_)
theorem spec_l3order.mono : ∀ a0 k, LeO (spec_l3order.f k a0) (spec_l3order.f (k + 1) a0) := by
 intro a0 k
 obtain ⟨ih0, ih1, ih2, ih3⟩ := spec_l3order.mono_l k
 exact ih0 a0
set_option maxHeartbeats 8000000 in
set_option maxRecDepth 100000 in
theorem spec_l3order.calls (k : Nat) : ∀ (A0 : Option Addr) (c0 : Nat) (l0 : List Int) (r : List Int) (w : World) (hr0 : Kd.C (Kd.int .i64) w A0 l0.length l0) (hc0 : l0.length ≤ c0) (h : spec_l3order.f k l0 = some r),
  Calls Try.prog 73 #[.slice A0 l0.length c0] w fun e w' => ∃ v0_ : Value, e = .returned (v0_) ∧ Kd.R (Kd.int .i64) 3 w' w.heap.size (fun _ => True) v0_ r ∧ Below w.heap.size w w' := by
 induction k using Nat.strongRecOn with
 | _ k ih =>
 intro A0 c0 l0 r w hr0 hc0 h
 cases k with
 | zero => exact absurd h (by simp [spec_l3order.f])
 | succ k =>
 simp only [spec_l3order.f] at h
 have HR0 := zA hr0
 have HC0 := zA hc0
 clear hr0 hc0
 have HB := zA (Below.refl w.heap.size w)
 have H : (if (l0.length : Int) < 2 then (if ([] : List Int).length + l0.length < 17592186044416 then (some (([] : List Int) ++ l0)) else (none)) else (if 0 ≤ (wrap64 ((l0.length : Int) / 2)) then (if (wrap64 ((l0.length : Int) / 2)) ≤ (l0.length : Int) then ((spec_l3order.f k (l0.take ((wrap64 ((l0.length : Int) / 2)) : Int).toNat)).bind fun t193 => ((spec_l3order.f k (l0.drop ((wrap64 ((l0.length : Int) / 2)) : Int).toNat)).bind fun t197 => (spec_l3order.l0 k t193 t197 ([] : List Int) 0 0))) else (none)) else (none))) = some r := h
 clear h
 by_cases c2 : (l0.length : Int) < 2
 ·rw [if_pos c2] at H
  have c2b0 : decide ((l0.length : Int) < 2) = true := decide_eq_true c2
  have c2b1 : decide (l0.length < 2) = true := decide_eq_true zq3
  clear c2
  by_cases c3 : ([] : List Int).length + l0.length < 17592186044416
  ·rw [if_pos c3] at H
   have LMc3 := zA c3
   clear c3
   obtain ⟨y189, hy189⟩ : ∃ y_ : List Int, y_ = (([] : List Int) ++ l0) := ⟨_, rfl⟩
   replace H : (some y189) = some r := by first | (rw [hy189]; with_reducible exact H) | (have H2_ := (Option.bind_some _ _).symm.trans H; rw [hy189]; with_reducible exact H2_) | (have H2_ := (Option.bind_some _ _).symm.trans H; with_reducible exact H2_) | with_reducible exact H | (rw [hy189]; exact H) | exact H
   have Ny189 := zA hy189
   clear hy189
   obtain rfl := Option.some.inj H
   go_enter Try.func73, Try.ntmps73
   go_wp2_with (first | ((with_reducible refine gate_builtin (b := .append) (xs := #[.tmp 13, .tmp 14]) rfl ?_); (try (refine gate_guard (by rfl) ?_; dsimp only)); at_builtin; refine Kd.R_append_rows (Kd.int .i64) (w0 := w) w.heap.size rfl (.tmp 13) (.tmp 14) 22 3 (.int .i64 0) 8 rfl Try.underlying22 info3 rfl zq13 zq3 (.slice none 0 0) ([] : List Int) l0 _ _ _ (fun _ => True) (fun _ => False) rfl rfl ?aO ?aR (fun _ _ h => h) (fun _ h => h.elim) ?aF ?aB ?aS ?aL ?_; (case aR => repeat (first | exact HR0.out | (with_reducible refine Kd.C_alloc ?_ _) | (with_reducible refine Kd.C_drewN ?_ _) | (with_reducible refine Kd.C_drew ?_))); (case aB => exact zq0); (case aF => exact (fun _ _ => trivial)); (case aO => exact ((Kd.R_nil _ _ _ _ (fun _ => True)))); (case aS => exact (below_size zq0)); (case aL => have := LMc3.out; omega); intro v190 w4 ho hb hg hat; rw [← Ny189.out] at ho; have n0_ := zA (hb); have n1_ := zA (ho); clear HB; have HB := n0_; have HO191 := n1_; clear n0_ n1_; clear ho hb hg hat))
   go_ret
   exact ⟨_, zq9, by (with_reducible repeat (first | apply Kd.R_alloc | apply Kd.R_drewN | apply Kd.R_drew)); exact HO191.out, zq0⟩
  ·rw [if_neg c3] at H
   exact absurd H zq14
 ·rw [if_neg c2] at H
  have c2b0 : decide ((l0.length : Int) < 2) = false := decide_eq_false c2
  have c2b1 : decide (l0.length < 2) = false := decide_eq_false zq3
  clear c2
  obtain ⟨ji5, hji5⟩ : ∃ j_ : Int, (wrap64 ((l0.length : Int) / 2)) = j_ := ⟨_, rfl⟩
  replace H : (if 0 ≤ (ji5) then (if (ji5) ≤ (l0.length : Int) then ((spec_l3order.f k (l0.take ((ji5) : Int).toNat)).bind fun t193 => ((spec_l3order.f k (l0.drop ((ji5) : Int).toNat)).bind fun t197 => (spec_l3order.l0 k t193 t197 ([] : List Int) 0 0))) else (none)) else (none)) = some r := by first | (rw [hji5] at H; exact H) | (simp only [hji5] at H ⊢; exact H)
  have hji5w : (IntKind.i64.wrap ((l0.length : Int) / 2)) = ji5 := (i64_w _).trans hji5
  by_cases c6 : 0 ≤ (ji5)
  ·rw [if_pos c6] at H
   have c6b0 := eq_true c6
   have c6b1 : decide (0 ≤ (ji5)) = true := decide_eq_true c6
   clear c6
   by_cases c7 : (ji5) ≤ (l0.length : Int)
   ·rw [if_pos c7] at H
    have c7b0 := eq_true c7
    have c7b1 : decide ((ji5) ≤ (l0.length : Int)) = true := decide_eq_true c7
    clear c7
    replace H := Option.bind_eq_some_iff.mp H
    obtain ⟨t193, A80, H⟩ := H
    replace H : ((spec_l3order.f k (l0.drop ((ji5) : Int).toNat)).bind fun t197 => (spec_l3order.l0 k t193 t197 ([] : List Int) 0 0)) = some r := H
    have A8 := zA A80
    clear A80
    have c9b0 := eq_true (of_decide_eq_true zq4 : 0 ≤ (ji5))
    have c10b0 := eq_true (of_decide_eq_true zq4 : (ji5) ≤ (l0.length : Int))
    replace H := Option.bind_eq_some_iff.mp H
    obtain ⟨t197, A110, H⟩ := H
    replace H : (spec_l3order.l0 k t193 t197 ([] : List Int) 0 0) = some r := H
    have A11 := zA A110
    clear A110
    have H' := zA H
    clear H
    obtain ⟨i012, hi012, _, hsz12, _⟩ := info_parts info3
    obtain ⟨hcut12, hA12, hC12⟩ := print_take_of (P := Try.prog) (Value.int .i64) 0 22 3 .i64 Try.underlying22 hi012 hsz12 A0 c0 l0 (ji5) (of_decide_eq_true zq4) (of_decide_eq_true zq4) HC0.out
    have HR192 := zA (Kd.C_of_reads (h1 := fun _ => rfl) (hA12 _ (Kd.reads_of_C HR0.out)))
    have HC192 := zA hC12
    clear hA12 hC12 hi012 hsz12
    have HLT := zA (show ji5.toNat = (l0.take ((ji5) : Int).toNat).length by rw [List.length_take]; have h1_ := of_eq_true c9b0; have h2_ := of_eq_true c10b0; omega)
    have HLD := zA (show l0.length - ji5.toNat = (l0.drop ((ji5) : Int).toNat).length by rw [List.length_drop])
    go_enter Try.func73, Try.ntmps73
    go_wp2_with (first | (go_at_call 73; (try rw [HLT.out]); (with_reducible refine (ih k zq3 _ _ (l0.take ((ji5) : Int).toNat) t193 _ ?side1 ?side2 A8.out).mono ?_); (case side1 => repeat (first | exact HR192.out | (with_reducible refine Kd.C_alloc ?_ _) | (with_reducible refine Kd.C_drewN ?_ _) | (with_reducible refine Kd.C_drew ?_))); (case side2 => exact HC192.out); rintro e w13 ⟨v194, rfl, ho0, hb⟩; have n0_ := zA (Kd.R_lower ho0 (below_size zq0)); have n1_ := zA (below_step zq0 hb); clear HB; have HO195 := n0_; have HB := n1_; clear n0_ n1_; (try clear hb); (try clear hb2); (try clear hk); (try clear hi); (try clear ho0); obtain ⟨i014, hi014, _, hsz14, _⟩ := info_parts info3; obtain ⟨A14, hcut14, hA14, hC14⟩ := print_drop_of (P := Try.prog) (Value.int .i64) 0 22 3 .i64 Try.underlying22 hi014 hsz14 A0 c0 l0 (ji5) (of_decide_eq_true zq4) (of_decide_eq_true zq4) HC0.out; have HR196 := zA (Kd.C_of_reads (h1 := fun _ => rfl) (hA14 _ (Kd.reads_of_C HR0.out))); have HC196 := zA hC14; clear hA14 hC14 hi014 hsz14) | (go_at_call 73; (try rw [HLD.out]); (with_reducible refine (ih k zq3 _ _ (l0.drop ((ji5) : Int).toNat) t197 _ ?side1 ?side2 A11.out).mono ?_); (case side1 => repeat (first | exact (Kd.C_below HR196.out HB.out) | (with_reducible refine Kd.C_alloc ?_ _) | (with_reducible refine Kd.C_drewN ?_ _) | (with_reducible refine Kd.C_drew ?_))); (case side2 => exact HC196.out); rintro e w15 ⟨v198, rfl, ho0, hb⟩; have n0_ := zA (Kd.R_elder' (by (with_reducible repeat (first | apply Kd.R_alloc | apply Kd.R_drewN | apply Kd.R_drew)); exact HO195.out) (Kd.R_base ho0) hb); have n1_ := zA (Kd.R_lower (Kd.R_new' ho0 (Kd.R_lt (by (with_reducible repeat (first | apply Kd.R_alloc | apply Kd.R_drewN | apply Kd.R_drew)); exact HO195.out))) (below_size zq0)); have n2_ := zA (below_step zq0 hb); clear HO195; clear HB; have HO195 := n0_; have HO199 := n1_; have HB := n2_; clear n0_ n1_ n2_; (try clear hb); (try clear hb2); (try clear hk); (try clear hi); (try clear ho0)))
    go_loopg [6, 7, 8] k (fun kq v6 v7 v8 w' => ∃ (x6_1 : List Int) (x7_1 : Int) (x8_1 : Int), v7 = .int .i64 x7_1 ∧ v8 = .int .i64 x8_1 ∧ Aside0 (spec_l3order.l0 kq t193 t197 x6_1 x7_1 x8_1 = some r) ∧ Aside0 (kq ≤ k) ∧ Aside0 (Kd.R (Kd.int .i64) 3 w' w.heap.size (fun k_ => some k_ ≠ (v198 : Value).ownBlock ∧ some k_ ≠ (v6 : Value).ownBlock) v194 t193) ∧ Aside0 (Kd.R (Kd.int .i64) 3 w' w.heap.size (fun k_ => some k_ ≠ (v194 : Value).ownBlock ∧ some k_ ≠ (v6 : Value).ownBlock) v198 t197) ∧ Aside0 (Kd.R (Kd.int .i64) 3 w' w.heap.size (fun k_ => some k_ ≠ (v194 : Value).ownBlock ∧ some k_ ≠ (v198 : Value).ownBlock) v6 x6_1) ∧ Aside0 (Below w.heap.size w w'))
    case atStart => exact ⟨(([] : List Int)), (0), (0), zq6, zq6, H', ⟨Nat.le_refl _⟩, ⟨by (with_reducible repeat (first | apply Kd.R_alloc | apply Kd.R_drewN | apply Kd.R_drew)); exact Kd.R_mono HO195.out (fun _ hk => ⟨hk.2, zq26⟩)⟩, ⟨by (with_reducible repeat (first | apply Kd.R_alloc | apply Kd.R_drewN | apply Kd.R_drew)); exact Kd.R_mono HO199.out (fun _ hk => ⟨hk.2, zq26⟩)⟩, ⟨zq21⟩, ⟨zq0⟩⟩
    case round =>
     clear H'
     try clear c1
     try clear c2
     try clear c2b0
     try clear c2b1
     try clear p2
     try clear c3
     try clear c6
     try clear c6b0
     try clear c6b1
     try clear p6
     try clear c7
     try clear c7b0
     try clear c7b1
     try clear c9
     try clear c9b0
     try clear c10
     try clear c10b0
     obtain ⟨x6_1, x7_1, x8_1, rfl, rfl, HA, HK1, HO_4, HO_5, HO_6, HB⟩ := hrel
     cases gk with
     | zero => exact absurd HA.out (by simp [spec_l3order.l0])
     | succ k1 =>
      have H := HA.out
      clear HA
      simp only [spec_l3order.l0] at H
      have HC16 := zA H
      clear H
      go_upto_region 9 with (fail)
      go_cut [37] (fun v37 wc => ∃ (kq : Nat) (x37_15 : Bool), v37 = .bool x37_15 ∧ Aside0 (spec_l3order.j1 kq t193 t197 x6_1 x7_1 x8_1 x37_15 = some r) ∧ Aside0 (kq ≤ k1) ∧ Aside0 (Kd.R (Kd.int .i64) 3 wc w.heap.size (fun k_ => some k_ ≠ (v198 : Value).ownBlock ∧ some k_ ≠ (u6 : Value).ownBlock) v194 t193) ∧ Aside0 (Kd.R (Kd.int .i64) 3 wc w.heap.size (fun k_ => some k_ ≠ (v194 : Value).ownBlock ∧ some k_ ≠ (u6 : Value).ownBlock) v198 t197) ∧ Aside0 (Kd.R (Kd.int .i64) 3 wc w.heap.size (fun k_ => some k_ ≠ (v194 : Value).ownBlock ∧ some k_ ≠ (v198 : Value).ownBlock) u6 x6_1) ∧ Aside0 (Below w.heap.size w wc))
      case first =>
       have H := HC16.out
       clear HC16
       by_cases c17 : x7_1 < (t193.length : Int)
       ·rw [if_pos c17] at H
        have c17b0 : decide (x7_1 < (t193.length : Int)) = true := decide_eq_true c17
        clear c17
        (first | rw [c17b0] | (simp only [i64_w, i32_w]; rw [c17b0]) | skip)
        have H' := zA H
        clear H
        obtain ⟨Ao18, co18, eo18⟩ := Kd.R_slice HO_4.out
        subst eo18
        go_wp2
        go_meet
        case rel => exact ⟨_, (true), zq6, H', ⟨by have := HK1.out; first | omega | exact Nat.le_refl _⟩, ⟨zq11⟩, ⟨zq8⟩, ⟨zq19⟩, ⟨zq0⟩⟩
       ·rw [if_neg c17] at H
        have c17b0 : decide (x7_1 < (t193.length : Int)) = false := decide_eq_false c17
        clear c17
        (first | rw [c17b0] | (simp only [i64_w, i32_w]; rw [c17b0]) | skip)
        have H' := zA H
        clear H
        obtain ⟨Ao19, co19, eo19⟩ := Kd.R_slice HO_4.out
        subst eo19
        obtain ⟨Ao20, co20, eo20⟩ := Kd.R_slice HO_5.out
        subst eo20
        go_wp2
        go_meet
        case rel => exact ⟨_, (decide (x8_1 < (t197.length : Int))), zq6, H', ⟨by have := HK1.out; first | omega | exact Nat.le_refl _⟩, ⟨zq11⟩, ⟨zq8⟩, ⟨zq19⟩, ⟨zq0⟩⟩
      case rest =>
       clear HC16
       try clear c1
       try clear c2
       try clear c2b0
       try clear c2b1
       try clear p2
       try clear c3
       try clear c6
       try clear c6b0
       try clear c6b1
       try clear p6
       try clear c7
       try clear c7b0
       try clear c7b1
       try clear c9
       try clear c9b0
       try clear c10
       try clear c10b0
       try clear c17
       try clear c17b0
       try clear p2
       try clear p6
       obtain ⟨kq, x37_15, rfl, HA, HJ15, HO_4, HO_5, HO_6, HB⟩ := hcut
       cases kq with
       | zero => exact absurd HA.out (by simp [spec_l3order.j1])
       | succ kj15 =>
        have H := HA.out
        clear HA
        simp only [spec_l3order.j1] at H
        by_cases c21 : x37_15 = true
        ·subst c21
         have H1 : (if x8_1 ≥ (t197.length : Int) then (spec_l3order.j2 kj15 t193 t197 x6_1 x7_1 x8_1 true) else (if x7_1 < (t193.length : Int) then (if 0 ≤ x7_1 then (if 0 ≤ x8_1 then (if x8_1 < (t197.length : Int) then (spec_l3order.j2 kj15 t193 t197 x6_1 x7_1 x8_1 (decide ((rd t193 x7_1) ≤ (rd t197 x8_1)))) else (none)) else (none)) else (none)) else (spec_l3order.j2 kj15 t193 t197 x6_1 x7_1 x8_1 false))) = some r := by rw [if_pos rfl] at H; exact H
         clear H
         have H := H1
         clear H1
         have HC22 := zA H
         clear H
         go_upto_region 11 with (fail)
         go_cut [58] (fun v58 wc => ∃ (kq : Nat) (x58_21 : Bool), v58 = .bool x58_21 ∧ Aside0 (spec_l3order.j2 kq t193 t197 x6_1 x7_1 x8_1 x58_21 = some r) ∧ Aside0 (kq ≤ kj15) ∧ Aside0 (Kd.R (Kd.int .i64) 3 wc w.heap.size (fun k_ => some k_ ≠ (v198 : Value).ownBlock ∧ some k_ ≠ (u6 : Value).ownBlock) v194 t193) ∧ Aside0 (Kd.R (Kd.int .i64) 3 wc w.heap.size (fun k_ => some k_ ≠ (v194 : Value).ownBlock ∧ some k_ ≠ (u6 : Value).ownBlock) v198 t197) ∧ Aside0 (Kd.R (Kd.int .i64) 3 wc w.heap.size (fun k_ => some k_ ≠ (v194 : Value).ownBlock ∧ some k_ ≠ (v198 : Value).ownBlock) u6 x6_1) ∧ Aside0 (Below w.heap.size w wc))
         case first =>
          have H := HC22.out
          clear HC22
          by_cases c23 : x8_1 ≥ (t197.length : Int)
          ·rw [if_pos c23] at H
           have c23b0 : decide ((t197.length : Int) ≤ x8_1) = true := decide_eq_true c23
           clear c23
           (first | rw [c23b0] | (simp only [i64_w, i32_w]; rw [c23b0]) | skip)
           have H' := zA H
           clear H
           obtain ⟨Ao24, co24, eo24⟩ := Kd.R_slice HO_5.out
           subst eo24
           go_wp2
           repeat (go_quiet (fail); try go_wp2)
           go_meet
           case rel => exact ⟨_, (true), zq6, H', ⟨by have := HK1.out; have := HJ15.out; first | omega | exact Nat.le_refl _⟩, ⟨zq11⟩, ⟨zq8⟩, ⟨zq19⟩, ⟨zq0⟩⟩
          ·rw [if_neg c23] at H
           have c23b0 : decide ((t197.length : Int) ≤ x8_1) = false := decide_eq_false c23
           clear c23
           (first | rw [c23b0] | (simp only [i64_w, i32_w]; rw [c23b0]) | skip)
           by_cases c25 : x7_1 < (t193.length : Int)
           ·rw [if_pos c25] at H
            have c25b0 : decide (x7_1 < (t193.length : Int)) = true := decide_eq_true c25
            clear c25
            by_cases c26 : 0 ≤ x7_1
            ·rw [if_pos c26] at H
             have c26b0 : decide (0 ≤ x7_1) = true := decide_eq_true c26
             clear c26
             by_cases c27 : 0 ≤ x8_1
             ·rw [if_pos c27] at H
              have c27b0 : decide (0 ≤ x8_1) = true := decide_eq_true c27
              clear c27
              by_cases c28 : x8_1 < (t197.length : Int)
              ·rw [if_pos c28] at H
               have c28b0 : decide (x8_1 < (t197.length : Int)) = true := decide_eq_true c28
               clear c28
               have H' := zA H
               clear H
               obtain ⟨Ao29, co29, eo29⟩ := Kd.R_slice HO_5.out
               subst eo29
               obtain ⟨Ao30, co30, eo30⟩ := Kd.R_slice HO_4.out
               subst eo30
               have p200 : 0 ≤ (x7_1 : Int) := of_decide_eq_true zq4
               have q200 : x7_1 < (t193.length : Int) := of_decide_eq_true zq4
               obtain ⟨ad200, e200, hx200_0⟩ := Kd.at_int (Kd.R_reads' HO_4.out).2.2 x7_1 p200 q200
               cases e200
               replace p200 := eq_true p200
               replace q200 := eq_true q200
               have p201 : 0 ≤ (x8_1 : Int) := of_decide_eq_true zq4
               have q201 : x8_1 < (t197.length : Int) := of_decide_eq_true zq4
               obtain ⟨ad201, e201, hx201_0⟩ := Kd.at_int (Kd.R_reads' HO_5.out).2.2 x8_1 p201 q201
               cases e201
               replace p201 := eq_true p201
               replace q201 := eq_true q201
               go_wp2
               repeat (go_quiet (fail); try go_wp2)
               go_meet
               case rel => exact ⟨_, (decide ((rd t193 x7_1) ≤ (rd t197 x8_1))), zq6, H', ⟨by have := HK1.out; have := HJ15.out; first | omega | exact Nat.le_refl _⟩, ⟨zq11⟩, ⟨zq8⟩, ⟨zq19⟩, ⟨zq0⟩⟩
              ·rw [if_neg c28] at H
               exact absurd H zq14
             ·rw [if_neg c27] at H
              exact absurd H zq14
            ·rw [if_neg c26] at H
             exact absurd H zq14
           ·rw [if_neg c25] at H
            have c25b0 : decide (x7_1 < (t193.length : Int)) = false := decide_eq_false c25
            clear c25
            have H' := zA H
            clear H
            obtain ⟨Ao31, co31, eo31⟩ := Kd.R_slice HO_5.out
            subst eo31
            obtain ⟨Ao32, co32, eo32⟩ := Kd.R_slice HO_4.out
            subst eo32
            go_wp2
            repeat (go_quiet (fail); try go_wp2)
            go_meet
            case rel => exact ⟨_, (false), zq6, H', ⟨by have := HK1.out; have := HJ15.out; first | omega | exact Nat.le_refl _⟩, ⟨zq11⟩, ⟨zq8⟩, ⟨zq19⟩, ⟨zq0⟩⟩
         case rest =>
          clear HC22
          try clear c1
          try clear c2
          try clear c2b0
          try clear c2b1
          try clear p2
          try clear q2
          try clear hx2
          try clear c3
          try clear c6
          try clear c6b0
          try clear c6b1
          try clear p6
          try clear c7
          try clear c7b0
          try clear c7b1
          try clear c9
          try clear c9b0
          try clear c10
          try clear c10b0
          try clear c17
          try clear c17b0
          try clear p20
          try clear q20
          try clear hx20
          try clear c21
          try clear c23
          try clear c23b0
          try clear c25
          try clear c25b0
          try clear c26
          try clear c26b0
          try clear c27
          try clear c27b0
          try clear c28
          try clear c28b0
          try clear hx200_0
          try clear hx201_0
          try clear p2
          try clear p200
          try clear p201
          try clear p6
          try clear q200
          try clear q201
          obtain ⟨kq, x58_21, rfl, HA, HJ21, HO_4, HO_5, HO_6, HB⟩ := hcut
          cases kq with
          | zero => exact absurd HA.out (by simp [spec_l3order.j2])
          | succ kj21 =>
           have H := HA.out
           clear HA
           simp only [spec_l3order.j2] at H
           by_cases c33 : x58_21 = true
           ·subst c33
            have H1 : (if 0 ≤ x7_1 then (if x7_1 < (t193.length : Int) then (if (x6_1.length : Int) = 0 then (if x6_1.length < 17592186044416 then (spec_l3order.l0 kj21 t193 t197 (x6_1 ++ [rd t193 x7_1]) (wrap64 (x7_1 + 1)) x8_1) else (none)) else (if 0 ≤ (wrap64 ((x6_1.length : Int) - 1)) then (if (wrap64 ((x6_1.length : Int) - 1)) < (x6_1.length : Int) then (if (rd x6_1 (wrap64 ((x6_1.length : Int) - 1))) = (rd t193 x7_1) then (spec_l3order.l0 kj21 t193 t197 x6_1 (wrap64 (x7_1 + 1)) x8_1) else (if x6_1.length < 17592186044416 then (spec_l3order.l0 kj21 t193 t197 (x6_1 ++ [rd t193 x7_1]) (wrap64 (x7_1 + 1)) x8_1) else (none))) else (none)) else (none))) else (none)) else (none)) = some r := by rw [if_pos rfl] at H; exact H
            clear H
            have H := H1
            clear H1
            by_cases c34 : 0 ≤ x7_1
            ·rw [if_pos c34] at H
             have c34b0 : decide (0 ≤ x7_1) = true := decide_eq_true c34
             clear c34
             by_cases c35 : x7_1 < (t193.length : Int)
             ·rw [if_pos c35] at H
              have c35b0 : decide (x7_1 < (t193.length : Int)) = true := decide_eq_true c35
              clear c35
              by_cases c36 : (x6_1.length : Int) = 0
              ·rw [if_pos c36] at H
               have c36b0 : ((x6_1.length : Int) == 0) = true := beq_iff_eq.mpr c36
               have c36b1 : ((x6_1.length : Int) != 0) = false := bne_eq_false_iff_eq.mpr c36
               clear c36
               by_cases c37 : x6_1.length < 17592186044416
               ·rw [if_pos c37] at H
                have LMc37 := zA c37
                clear c37
                obtain ⟨y203, hy203⟩ : ∃ y_ : List Int, y_ = (x6_1 ++ [rd t193 x7_1]) := ⟨_, rfl⟩
                replace H : (spec_l3order.l0 kj21 t193 t197 y203 (wrap64 (x7_1 + 1)) x8_1) = some r := by first | (rw [hy203]; with_reducible exact H) | (have H2_ := (Option.bind_some _ _).symm.trans H; rw [hy203]; with_reducible exact H2_) | (have H2_ := (Option.bind_some _ _).symm.trans H; with_reducible exact H2_) | with_reducible exact H | (rw [hy203]; exact H) | exact H
                have Ny203 := zA hy203
                clear hy203
                have H' := zA H
                clear H
                obtain ⟨Ao38, co38, eo38⟩ := Kd.R_slice HO_4.out
                subst eo38
                have p202 : 0 ≤ (x7_1 : Int) := of_decide_eq_true zq4
                have q202 : x7_1 < (t193.length : Int) := of_decide_eq_true zq4
                obtain ⟨ad202, e202, hx202_0⟩ := Kd.at_int (Kd.R_reads' HO_4.out).2.2 x7_1 p202 q202
                cases e202
                replace p202 := eq_true p202
                replace q202 := eq_true q202
                obtain ⟨Ao39, co39, eo39⟩ := Kd.R_slice HO_6.out
                subst eo39
                go_wp2_with (first | ((with_reducible refine gate_builtin (b := .append) (xs := #[.tmp 84, .tmp 86]) rfl ?_); (try (refine gate_guard (by rfl) ?_; dsimp only)); at_builtin; refine Kd.R_append (Kd.int .i64) (w0 := w) w.heap.size rfl (.tmp 84) (.tmp 86) 22 3 (.int .i64 0) 8 rfl Try.underlying22 info3 rfl zq13 zq3 (.slice Ao39 x6_1.length co39) x6_1 (rd t193 x7_1) [.int .i64 (rd t193 x7_1)] (fun k_ => some k_ ≠ (.slice (some ad202) t193.length co38 : Value).ownBlock ∧ some k_ ≠ (v198 : Value).ownBlock) (fun _ => False) rfl rfl ?aP (fun _ hk => hk.elim) ?aF ?aO ?aB ?aS ?aL ?_; (case aP => exact rfl); (case aB => exact zq0); (case aF => exact (fun k_ hk => ⟨Kd.fresh' (Kd.R_lt zq11) k_ hk, Kd.fresh' (Kd.R_lt zq8) k_ hk⟩)); (case aO => exact zq19); (case aS => exact (below_size zq0)); (case aL => have := LMc37.out; omega); intro v204 w40 ho hb hg hat; rw [← Ny203.out] at ho; have n0_ := zA (Kd.R_after (ok := (fun k_ => some k_ ≠ (v198 : Value).ownBlock)) zq11 hg hat); have n1_ := zA (Kd.R_after (ok := (fun k_ => some k_ ≠ (.slice (some ad202) t193.length co38 : Value).ownBlock)) zq8 hg hat); have n2_ := zA (hb); have n3_ := zA (ho); clear HO_4; clear HO_5; clear HB; clear HO_6; have HO_4 := n0_; have HO_5 := n1_; have HB := n2_; have HO205 := n3_; clear n0_ n1_ n2_ n3_; clear ho hb hg hat))
                go_roundg kj21
                case measure => have := HK1.out; have := HJ15.out; have := HJ21.out; omega
                case rel => exact ⟨(y203), (wrap64 (x7_1 + 1)), (x8_1), zq6, zq6, H', ⟨zq44⟩, ⟨zq11⟩, ⟨zq8⟩, ⟨by (with_reducible repeat (first | apply Kd.R_alloc | apply Kd.R_drewN | apply Kd.R_drew)); exact HO205.out⟩, ⟨zq0⟩⟩
               ·rw [if_neg c37] at H
                exact absurd H zq14
              ·rw [if_neg c36] at H
               have c36b0 : ((x6_1.length : Int) == 0) = false := beq_eq_false_iff_ne.mpr c36
               have c36b1 : ((x6_1.length : Int) != 0) = true := bne_iff_ne.mpr c36
               have c36b2 : ¬ (x6_1 = []) := fun h_ => c36 (by rw [h_]; rfl)
               obtain ⟨ji41, hji41⟩ : ∃ j_ : Int, (wrap64 ((x6_1.length : Int) - 1)) = j_ := ⟨_, rfl⟩
               replace H : (if 0 ≤ (ji41) then (if (ji41) < (x6_1.length : Int) then (if (rd x6_1 (ji41)) = (rd t193 x7_1) then (spec_l3order.l0 kj21 t193 t197 x6_1 (wrap64 (x7_1 + 1)) x8_1) else (if x6_1.length < 17592186044416 then (spec_l3order.l0 kj21 t193 t197 (x6_1 ++ [rd t193 x7_1]) (wrap64 (x7_1 + 1)) x8_1) else (none))) else (none)) else (none)) = some r := by first | (rw [hji41] at H; exact H) | (simp only [hji41] at H ⊢; exact H)
               have hji41w : (IntKind.i64.wrap ((x6_1.length : Int) - 1)) = ji41 := (i64_w _).trans hji41
               by_cases c42 : 0 ≤ (ji41)
               ·rw [if_pos c42] at H
                have c42b0 : decide (0 ≤ (ji41)) = true := decide_eq_true c42
                clear c42
                by_cases c43 : (ji41) < (x6_1.length : Int)
                ·rw [if_pos c43] at H
                 have c43b0 : decide ((ji41) < (x6_1.length : Int)) = true := decide_eq_true c43
                 clear c43
                 by_cases c44 : (rd x6_1 (ji41)) = (rd t193 x7_1)
                 ·rw [if_pos c44] at H
                  have c44b0 : ((rd x6_1 (ji41)) == (rd t193 x7_1)) = true := beq_iff_eq.mpr c44
                  have c44b1 : ((rd x6_1 (ji41)) != (rd t193 x7_1)) = false := bne_eq_false_iff_eq.mpr c44
                  clear c44
                  have H' := zA H
                  clear H
                  obtain ⟨Ao45, co45, eo45⟩ := Kd.R_slice HO_4.out
                  subst eo45
                  have p202 : 0 ≤ (x7_1 : Int) := of_decide_eq_true zq4
                  have q202 : x7_1 < (t193.length : Int) := of_decide_eq_true zq4
                  obtain ⟨ad202, e202, hx202_0⟩ := Kd.at_int (Kd.R_reads' HO_4.out).2.2 x7_1 p202 q202
                  cases e202
                  replace p202 := eq_true p202
                  replace q202 := eq_true q202
                  obtain ⟨Ao46, co46, eo46⟩ := Kd.R_slice HO_6.out
                  subst eo46
                  have p206 : 0 ≤ ((ji41) : Int) := of_decide_eq_true zq4
                  have q206 : (ji41) < (x6_1.length : Int) := of_decide_eq_true zq4
                  obtain ⟨ad206, e206, hx206_0⟩ := Kd.at_int (Kd.R_reads' HO_6.out).2.2 (ji41) p206 q206
                  cases e206
                  replace p206 := eq_true p206
                  replace q206 := eq_true q206
                  go_wp2
                  go_roundg kj21
                  case measure => have := HK1.out; have := HJ15.out; have := HJ21.out; omega
                  case rel => exact ⟨(x6_1), (wrap64 (x7_1 + 1)), (x8_1), zq6, zq6, H', ⟨zq44⟩, ⟨zq11⟩, ⟨zq8⟩, ⟨zq19⟩, ⟨zq0⟩⟩
                 ·rw [if_neg c44] at H
                  have c44b0 : ((rd x6_1 (ji41)) == (rd t193 x7_1)) = false := beq_eq_false_iff_ne.mpr c44
                  have c44b1 : ((rd x6_1 (ji41)) != (rd t193 x7_1)) = true := bne_iff_ne.mpr c44
                  by_cases c47 : x6_1.length < 17592186044416
                  ·rw [if_pos c47] at H
                   have LMc47 := zA c47
                   clear c47
                   obtain ⟨y207, hy207⟩ : ∃ y_ : List Int, y_ = (x6_1 ++ [rd t193 x7_1]) := ⟨_, rfl⟩
                   replace H : (spec_l3order.l0 kj21 t193 t197 y207 (wrap64 (x7_1 + 1)) x8_1) = some r := by first | (rw [hy207]; with_reducible exact H) | (have H2_ := (Option.bind_some _ _).symm.trans H; rw [hy207]; with_reducible exact H2_) | (have H2_ := (Option.bind_some _ _).symm.trans H; with_reducible exact H2_) | with_reducible exact H | (rw [hy207]; exact H) | exact H
                   have Ny207 := zA hy207
                   clear hy207
                   have H' := zA H
                   clear H
                   obtain ⟨Ao48, co48, eo48⟩ := Kd.R_slice HO_4.out
                   subst eo48
                   have p202 : 0 ≤ (x7_1 : Int) := of_decide_eq_true zq4
                   have q202 : x7_1 < (t193.length : Int) := of_decide_eq_true zq4
                   obtain ⟨ad202, e202, hx202_0⟩ := Kd.at_int (Kd.R_reads' HO_4.out).2.2 x7_1 p202 q202
                   cases e202
                   replace p202 := eq_true p202
                   replace q202 := eq_true q202
                   obtain ⟨Ao49, co49, eo49⟩ := Kd.R_slice HO_6.out
                   subst eo49
                   have p206 : 0 ≤ ((ji41) : Int) := of_decide_eq_true zq4
                   have q206 : (ji41) < (x6_1.length : Int) := of_decide_eq_true zq4
                   obtain ⟨ad206, e206, hx206_0⟩ := Kd.at_int (Kd.R_reads' HO_6.out).2.2 (ji41) p206 q206
                   cases e206
                   replace p206 := eq_true p206
                   replace q206 := eq_true q206
                   go_wp2_with (first | ((with_reducible refine gate_builtin (b := .append) (xs := #[.tmp 84, .tmp 86]) rfl ?_); (try (refine gate_guard (by rfl) ?_; dsimp only)); at_builtin; refine Kd.R_append (Kd.int .i64) (w0 := w) w.heap.size rfl (.tmp 84) (.tmp 86) 22 3 (.int .i64 0) 8 rfl Try.underlying22 info3 rfl zq13 zq3 (.slice (some ad206) x6_1.length co49) x6_1 (rd t193 x7_1) [.int .i64 (rd t193 x7_1)] (fun k_ => some k_ ≠ (.slice (some ad202) t193.length co48 : Value).ownBlock ∧ some k_ ≠ (v198 : Value).ownBlock) (fun _ => False) rfl rfl ?aP (fun _ hk => hk.elim) ?aF ?aO ?aB ?aS ?aL ?_; (case aP => exact rfl); (case aB => exact zq0); (case aF => exact (fun k_ hk => ⟨Kd.fresh' (Kd.R_lt zq11) k_ hk, Kd.fresh' (Kd.R_lt zq8) k_ hk⟩)); (case aO => exact zq19); (case aS => exact (below_size zq0)); (case aL => have := LMc47.out; omega); intro v208 w50 ho hb hg hat; rw [← Ny207.out] at ho; have n0_ := zA (Kd.R_after (ok := (fun k_ => some k_ ≠ (v198 : Value).ownBlock)) zq11 hg hat); have n1_ := zA (Kd.R_after (ok := (fun k_ => some k_ ≠ (.slice (some ad202) t193.length co48 : Value).ownBlock)) zq8 hg hat); have n2_ := zA (hb); have n3_ := zA (ho); clear HO_4; clear HO_5; clear HB; clear HO_6; have HO_4 := n0_; have HO_5 := n1_; have HB := n2_; have HO209 := n3_; clear n0_ n1_ n2_ n3_; clear ho hb hg hat))
                   go_roundg kj21
                   case measure => have := HK1.out; have := HJ15.out; have := HJ21.out; omega
                   case rel => exact ⟨(y207), (wrap64 (x7_1 + 1)), (x8_1), zq6, zq6, H', ⟨zq44⟩, ⟨zq11⟩, ⟨zq8⟩, ⟨by (with_reducible repeat (first | apply Kd.R_alloc | apply Kd.R_drewN | apply Kd.R_drew)); exact HO209.out⟩, ⟨zq0⟩⟩
                  ·rw [if_neg c47] at H
                   exact absurd H zq14
                ·rw [if_neg c43] at H
                 exact absurd H zq14
               ·rw [if_neg c42] at H
                exact absurd H zq14
             ·rw [if_neg c35] at H
              exact absurd H zq14
            ·rw [if_neg c34] at H
             exact absurd H zq14
           ·replace c33 := Bool.eq_false_iff.mpr c33
            subst c33
            have H1 : (if 0 ≤ x8_1 then (if x8_1 < (t197.length : Int) then (if (x6_1.length : Int) = 0 then (if x6_1.length < 17592186044416 then (spec_l3order.l0 kj21 t193 t197 (x6_1 ++ [rd t197 x8_1]) x7_1 (wrap64 (x8_1 + 1))) else (none)) else (if 0 ≤ (wrap64 ((x6_1.length : Int) - 1)) then (if (wrap64 ((x6_1.length : Int) - 1)) < (x6_1.length : Int) then (if (rd x6_1 (wrap64 ((x6_1.length : Int) - 1))) = (rd t197 x8_1) then (spec_l3order.l0 kj21 t193 t197 x6_1 x7_1 (wrap64 (x8_1 + 1))) else (if x6_1.length < 17592186044416 then (spec_l3order.l0 kj21 t193 t197 (x6_1 ++ [rd t197 x8_1]) x7_1 (wrap64 (x8_1 + 1))) else (none))) else (none)) else (none))) else (none)) else (none)) = some r := by rw [if_neg (show ¬ (false = true) by decide)] at H; exact H
            clear H
            have H := H1
            clear H1
            by_cases c51 : 0 ≤ x8_1
            ·rw [if_pos c51] at H
             have c51b0 : decide (0 ≤ x8_1) = true := decide_eq_true c51
             clear c51
             by_cases c52 : x8_1 < (t197.length : Int)
             ·rw [if_pos c52] at H
              have c52b0 : decide (x8_1 < (t197.length : Int)) = true := decide_eq_true c52
              clear c52
              by_cases c53 : (x6_1.length : Int) = 0
              ·rw [if_pos c53] at H
               have c53b0 : ((x6_1.length : Int) == 0) = true := beq_iff_eq.mpr c53
               have c53b1 : ((x6_1.length : Int) != 0) = false := bne_eq_false_iff_eq.mpr c53
               clear c53
               by_cases c54 : x6_1.length < 17592186044416
               ·rw [if_pos c54] at H
                have LMc54 := zA c54
                clear c54
                obtain ⟨y211, hy211⟩ : ∃ y_ : List Int, y_ = (x6_1 ++ [rd t197 x8_1]) := ⟨_, rfl⟩
                replace H : (spec_l3order.l0 kj21 t193 t197 y211 x7_1 (wrap64 (x8_1 + 1))) = some r := by first | (rw [hy211]; with_reducible exact H) | (have H2_ := (Option.bind_some _ _).symm.trans H; rw [hy211]; with_reducible exact H2_) | (have H2_ := (Option.bind_some _ _).symm.trans H; with_reducible exact H2_) | with_reducible exact H | (rw [hy211]; exact H) | exact H
                have Ny211 := zA hy211
                clear hy211
                have H' := zA H
                clear H
                obtain ⟨Ao55, co55, eo55⟩ := Kd.R_slice HO_5.out
                subst eo55
                have p210 : 0 ≤ (x8_1 : Int) := of_decide_eq_true zq4
                have q210 : x8_1 < (t197.length : Int) := of_decide_eq_true zq4
                obtain ⟨ad210, e210, hx210_0⟩ := Kd.at_int (Kd.R_reads' HO_5.out).2.2 x8_1 p210 q210
                cases e210
                replace p210 := eq_true p210
                replace q210 := eq_true q210
                obtain ⟨Ao56, co56, eo56⟩ := Kd.R_slice HO_6.out
                subst eo56
                go_wp2_with (first | ((with_reducible refine gate_builtin (b := .append) (xs := #[.tmp 84, .tmp 86]) rfl ?_); (try (refine gate_guard (by rfl) ?_; dsimp only)); at_builtin; refine Kd.R_append (Kd.int .i64) (w0 := w) w.heap.size rfl (.tmp 84) (.tmp 86) 22 3 (.int .i64 0) 8 rfl Try.underlying22 info3 rfl zq13 zq3 (.slice Ao56 x6_1.length co56) x6_1 (rd t197 x8_1) [.int .i64 (rd t197 x8_1)] (fun k_ => some k_ ≠ (v194 : Value).ownBlock ∧ some k_ ≠ (.slice (some ad210) t197.length co55 : Value).ownBlock) (fun _ => False) rfl rfl ?aP (fun _ hk => hk.elim) ?aF ?aO ?aB ?aS ?aL ?_; (case aP => exact rfl); (case aB => exact zq0); (case aF => exact (fun k_ hk => ⟨Kd.fresh' (Kd.R_lt zq11) k_ hk, Kd.fresh' (Kd.R_lt zq8) k_ hk⟩)); (case aO => exact zq19); (case aS => exact (below_size zq0)); (case aL => have := LMc54.out; omega); intro v212 w57 ho hb hg hat; rw [← Ny211.out] at ho; have n0_ := zA (Kd.R_after (ok := (fun k_ => some k_ ≠ (.slice (some ad210) t197.length co55 : Value).ownBlock)) zq11 hg hat); have n1_ := zA (Kd.R_after (ok := (fun k_ => some k_ ≠ (v194 : Value).ownBlock)) zq8 hg hat); have n2_ := zA (hb); have n3_ := zA (ho); clear HO_4; clear HO_5; clear HB; clear HO_6; have HO_4 := n0_; have HO_5 := n1_; have HB := n2_; have HO213 := n3_; clear n0_ n1_ n2_ n3_; clear ho hb hg hat))
                go_roundg kj21
                case measure => have := HK1.out; have := HJ15.out; have := HJ21.out; omega
                case rel => exact ⟨(y211), (x7_1), (wrap64 (x8_1 + 1)), zq6, zq6, H', ⟨zq44⟩, ⟨zq11⟩, ⟨zq8⟩, ⟨by (with_reducible repeat (first | apply Kd.R_alloc | apply Kd.R_drewN | apply Kd.R_drew)); exact HO213.out⟩, ⟨zq0⟩⟩
               ·rw [if_neg c54] at H
                exact absurd H zq14
              ·rw [if_neg c53] at H
               have c53b0 : ((x6_1.length : Int) == 0) = false := beq_eq_false_iff_ne.mpr c53
               have c53b1 : ((x6_1.length : Int) != 0) = true := bne_iff_ne.mpr c53
               have c53b2 : ¬ (x6_1 = []) := fun h_ => c53 (by rw [h_]; rfl)
               obtain ⟨ji58, hji58⟩ : ∃ j_ : Int, (wrap64 ((x6_1.length : Int) - 1)) = j_ := ⟨_, rfl⟩
               replace H : (if 0 ≤ (ji58) then (if (ji58) < (x6_1.length : Int) then (if (rd x6_1 (ji58)) = (rd t197 x8_1) then (spec_l3order.l0 kj21 t193 t197 x6_1 x7_1 (wrap64 (x8_1 + 1))) else (if x6_1.length < 17592186044416 then (spec_l3order.l0 kj21 t193 t197 (x6_1 ++ [rd t197 x8_1]) x7_1 (wrap64 (x8_1 + 1))) else (none))) else (none)) else (none)) = some r := by first | (rw [hji58] at H; exact H) | (simp only [hji58] at H ⊢; exact H)
               have hji58w : (IntKind.i64.wrap ((x6_1.length : Int) - 1)) = ji58 := (i64_w _).trans hji58
               by_cases c59 : 0 ≤ (ji58)
               ·rw [if_pos c59] at H
                have c59b0 : decide (0 ≤ (ji58)) = true := decide_eq_true c59
                clear c59
                by_cases c60 : (ji58) < (x6_1.length : Int)
                ·rw [if_pos c60] at H
                 have c60b0 : decide ((ji58) < (x6_1.length : Int)) = true := decide_eq_true c60
                 clear c60
                 by_cases c61 : (rd x6_1 (ji58)) = (rd t197 x8_1)
                 ·rw [if_pos c61] at H
                  have c61b0 : ((rd x6_1 (ji58)) == (rd t197 x8_1)) = true := beq_iff_eq.mpr c61
                  have c61b1 : ((rd x6_1 (ji58)) != (rd t197 x8_1)) = false := bne_eq_false_iff_eq.mpr c61
                  clear c61
                  have H' := zA H
                  clear H
                  obtain ⟨Ao62, co62, eo62⟩ := Kd.R_slice HO_5.out
                  subst eo62
                  have p210 : 0 ≤ (x8_1 : Int) := of_decide_eq_true zq4
                  have q210 : x8_1 < (t197.length : Int) := of_decide_eq_true zq4
                  obtain ⟨ad210, e210, hx210_0⟩ := Kd.at_int (Kd.R_reads' HO_5.out).2.2 x8_1 p210 q210
                  cases e210
                  replace p210 := eq_true p210
                  replace q210 := eq_true q210
                  obtain ⟨Ao63, co63, eo63⟩ := Kd.R_slice HO_6.out
                  subst eo63
                  have p214 : 0 ≤ ((ji58) : Int) := of_decide_eq_true zq4
                  have q214 : (ji58) < (x6_1.length : Int) := of_decide_eq_true zq4
                  obtain ⟨ad214, e214, hx214_0⟩ := Kd.at_int (Kd.R_reads' HO_6.out).2.2 (ji58) p214 q214
                  cases e214
                  replace p214 := eq_true p214
                  replace q214 := eq_true q214
                  go_wp2
                  go_roundg kj21
                  case measure => have := HK1.out; have := HJ15.out; have := HJ21.out; omega
                  case rel => exact ⟨(x6_1), (x7_1), (wrap64 (x8_1 + 1)), zq6, zq6, H', ⟨zq44⟩, ⟨zq11⟩, ⟨zq8⟩, ⟨zq19⟩, ⟨zq0⟩⟩
                 ·rw [if_neg c61] at H
                  have c61b0 : ((rd x6_1 (ji58)) == (rd t197 x8_1)) = false := beq_eq_false_iff_ne.mpr c61
                  have c61b1 : ((rd x6_1 (ji58)) != (rd t197 x8_1)) = true := bne_iff_ne.mpr c61
                  by_cases c64 : x6_1.length < 17592186044416
                  ·rw [if_pos c64] at H
                   have LMc64 := zA c64
                   clear c64
                   obtain ⟨y215, hy215⟩ : ∃ y_ : List Int, y_ = (x6_1 ++ [rd t197 x8_1]) := ⟨_, rfl⟩
                   replace H : (spec_l3order.l0 kj21 t193 t197 y215 x7_1 (wrap64 (x8_1 + 1))) = some r := by first | (rw [hy215]; with_reducible exact H) | (have H2_ := (Option.bind_some _ _).symm.trans H; rw [hy215]; with_reducible exact H2_) | (have H2_ := (Option.bind_some _ _).symm.trans H; with_reducible exact H2_) | with_reducible exact H | (rw [hy215]; exact H) | exact H
                   have Ny215 := zA hy215
                   clear hy215
                   have H' := zA H
                   clear H
                   obtain ⟨Ao65, co65, eo65⟩ := Kd.R_slice HO_5.out
                   subst eo65
                   have p210 : 0 ≤ (x8_1 : Int) := of_decide_eq_true zq4
                   have q210 : x8_1 < (t197.length : Int) := of_decide_eq_true zq4
                   obtain ⟨ad210, e210, hx210_0⟩ := Kd.at_int (Kd.R_reads' HO_5.out).2.2 x8_1 p210 q210
                   cases e210
                   replace p210 := eq_true p210
                   replace q210 := eq_true q210
                   obtain ⟨Ao66, co66, eo66⟩ := Kd.R_slice HO_6.out
                   subst eo66
                   have p214 : 0 ≤ ((ji58) : Int) := of_decide_eq_true zq4
                   have q214 : (ji58) < (x6_1.length : Int) := of_decide_eq_true zq4
                   obtain ⟨ad214, e214, hx214_0⟩ := Kd.at_int (Kd.R_reads' HO_6.out).2.2 (ji58) p214 q214
                   cases e214
                   replace p214 := eq_true p214
                   replace q214 := eq_true q214
                   go_wp2_with (first | ((with_reducible refine gate_builtin (b := .append) (xs := #[.tmp 84, .tmp 86]) rfl ?_); (try (refine gate_guard (by rfl) ?_; dsimp only)); at_builtin; refine Kd.R_append (Kd.int .i64) (w0 := w) w.heap.size rfl (.tmp 84) (.tmp 86) 22 3 (.int .i64 0) 8 rfl Try.underlying22 info3 rfl zq13 zq3 (.slice (some ad214) x6_1.length co66) x6_1 (rd t197 x8_1) [.int .i64 (rd t197 x8_1)] (fun k_ => some k_ ≠ (v194 : Value).ownBlock ∧ some k_ ≠ (.slice (some ad210) t197.length co65 : Value).ownBlock) (fun _ => False) rfl rfl ?aP (fun _ hk => hk.elim) ?aF ?aO ?aB ?aS ?aL ?_; (case aP => exact rfl); (case aB => exact zq0); (case aF => exact (fun k_ hk => ⟨Kd.fresh' (Kd.R_lt zq11) k_ hk, Kd.fresh' (Kd.R_lt zq8) k_ hk⟩)); (case aO => exact zq19); (case aS => exact (below_size zq0)); (case aL => have := LMc64.out; omega); intro v216 w67 ho hb hg hat; rw [← Ny215.out] at ho; have n0_ := zA (Kd.R_after (ok := (fun k_ => some k_ ≠ (.slice (some ad210) t197.length co65 : Value).ownBlock)) zq11 hg hat); have n1_ := zA (Kd.R_after (ok := (fun k_ => some k_ ≠ (v194 : Value).ownBlock)) zq8 hg hat); have n2_ := zA (hb); have n3_ := zA (ho); clear HO_4; clear HO_5; clear HB; clear HO_6; have HO_4 := n0_; have HO_5 := n1_; have HB := n2_; have HO217 := n3_; clear n0_ n1_ n2_ n3_; clear ho hb hg hat))
                   go_roundg kj21
                   case measure => have := HK1.out; have := HJ15.out; have := HJ21.out; omega
                   case rel => exact ⟨(y215), (x7_1), (wrap64 (x8_1 + 1)), zq6, zq6, H', ⟨zq44⟩, ⟨zq11⟩, ⟨zq8⟩, ⟨by (with_reducible repeat (first | apply Kd.R_alloc | apply Kd.R_drewN | apply Kd.R_drew)); exact HO217.out⟩, ⟨zq0⟩⟩
                  ·rw [if_neg c64] at H
                   exact absurd H zq14
                ·rw [if_neg c60] at H
                 exact absurd H zq14
               ·rw [if_neg c59] at H
                exact absurd H zq14
             ·rw [if_neg c52] at H
              exact absurd H zq14
            ·rw [if_neg c51] at H
             exact absurd H zq14
        ·replace c21 := Bool.eq_false_iff.mpr c21
         subst c21
         have H1 : (some x6_1) = some r := by rw [if_neg (show ¬ (false = true) by decide)] at H; exact H
         clear H
         have H := H1
         clear H1
         obtain rfl := Option.some.inj H
         go_wp2
         go_ret
         exact ⟨_, by first | rfl | (simp [errW_none, errW_some] <;> rfl) | (simp only [← hji5]; first | rfl | (simp [errW_none, errW_some] <;> rfl)) | (simp [*, errW_none, errW_some] <;> rfl), by (with_reducible repeat (first | apply Kd.R_alloc | apply Kd.R_drewN | apply Kd.R_drew)); exact Kd.R_mono HO_6.out (fun _ hk => trivial), zq0⟩
   ·rw [if_neg c7] at H
    exact absurd H zq14
  ·rw [if_neg c6] at H
   exact absurd H zq14
def spec_Trigrams.l0 : Nat → List Int → List Int → Int → Option (List Int)
 | 0, _, _, _ => none
 | k + 1, x0, x3, x4 => if (wrap64 (x4 + 2)) < (x0.length : Int) then (if 0 ≤ x4 then (if x4 < (x0.length : Int) then (if 0 ≤ (wrap64 (x4 + 1)) then (if (wrap64 (x4 + 1)) < (x0.length : Int) then (if 0 ≤ (wrap64 (x4 + 2)) then ((spec_l3num.f (wrap64 (rd x0 x4)) (wrap64 (rd x0 (wrap64 (x4 + 1)))) (wrap64 (rd x0 (wrap64 (x4 + 2))))).bind fun t221 => (if x3.length < 17592186044416 then (spec_Trigrams.l0 k x0 (x3 ++ [t221]) (wrap64 (x4 + 1))) else (none))) else (none)) else (none)) else (none)) else (none)) else (none)) else ((spec_l3order.f k x3).bind fun t225 => (some t225))
def spec_Trigrams.f (k : Nat) (l0 : List Int) : Option (List Int) := spec_Trigrams.l0 k l0 ([] : List Int) 0
theorem spec_Trigrams.mono_l : ∀ k, (∀ y0 y1 y2, LeO (spec_Trigrams.l0 k y0 y1 y2) (spec_Trigrams.l0 (k + 1) y0 y1 y2))
 | 0 => fun _ _ _ r h => by simp [spec_Trigrams.l0] at h
 | k + 1 => by
  have ih0 := spec_Trigrams.mono_l k
  ·intro y0 y1 y2
   unfold spec_Trigrams.l0
   repeat' first
   | (with_reducible exact ih0 _ _ _)
   | (with_reducible exact spec_l3order.mono _ _)
   | (with_reducible exact LeO.refl _)
   | (with_reducible exact LeO.none _)
   | (with_reducible refine LeO.ite ?_ ?_)
   | (with_reducible refine LeO.bind ?_ (fun _ => ?_))
   | exact ih0 _ _ _
   | exact spec_l3order.mono _ _
   | exact LeO.none _
   | refine LeO.ite ?_ ?_
   | refine LeO.bind ?_ (fun _ => ?_)
theorem spec_Trigrams.mono : ∀ a0 k, LeO (spec_Trigrams.f k a0) (spec_Trigrams.f (k + 1) a0) := by
 intro a0 k
 have ih0 := spec_Trigrams.mono_l k
 unfold spec_Trigrams.f
 repeat' first
   | (with_reducible exact ih0 _ _ _)
   | (with_reducible exact spec_l3order.mono _ _)
   | (with_reducible exact LeO.refl _)
   | (with_reducible exact LeO.none _)
   | (with_reducible refine LeO.ite ?_ ?_)
   | (with_reducible refine LeO.bind ?_ (fun _ => ?_))
   | exact ih0 _ _ _
   | exact spec_l3order.mono _ _
   | exact LeO.none _
   | refine LeO.ite ?_ ?_
   | refine LeO.bind ?_ (fun _ => ?_)
def spec_Trigrams.T5 : Bool × List (List Nat × List Nat) := (true, [([], []), ([], []), ([], []), ([1, 2], [1, 2]), ([3], [3]), ([4], [4]), ([], []), ([], []), ([7], [7]), ([6, 8], [6, 8]), ([9], [9]), ([10], [10]), ([], []), ([], []), ([13], [13]), ([12, 14], [12, 14]), ([15], [15]), ([16], [16]), ([5, 11, 17], [5, 11, 17]), ([18], [18]), ([0, 19, 18], [0, 19]), ([20, 20, 0, 1, 2, 3, 4, 5, 6, 7, 8, 9, 10, 11, 12, 13, 14, 15, 16, 17, 18, 19, 20], [0, 20])])
def spec_Trigrams.B5 : List Nat := [0, 0, 0, 6, 14, 30, 0, 0, 128, 448, 960, 1984, 0, 0, 8192, 28672, 61440, 126976, 262142, 524286, 1048575, 2097151]
theorem spec_Trigrams.tab5 : rtab .any (opsOf Try.f19 5) = spec_Trigrams.T5 := by kernel_rfl
theorem spec_Trigrams.bits5 : waitsOk spec_Trigrams.T5.2 spec_Trigrams.B5 = true := by kernel_rfl
set_option maxHeartbeats 8000000 in
set_option maxRecDepth 100000 in
theorem spec_Trigrams.calls (k : Nat) (A0 : Option Addr) (c0 : Nat) (l0 : List Int) (r : List Int) (w : World) (hr0 : Kd.C (Kd.int .u8) w A0 l0.length l0) (hc0 : l0.length ≤ c0) (h : spec_Trigrams.f k l0 = some r) :
  Calls Try.prog 19 #[.slice A0 l0.length c0] w fun e w' => ∃ v0_ : Value, e = .returned (v0_) ∧ Kd.R (Kd.int .i64) 3 w' w.heap.size (fun _ => True) v0_ r ∧ Below w.heap.size w w' := by
 have HR0 := zA hr0
 have HC0 := zA hc0
 clear hr0 hc0
 have HB := zA (Below.refl w.heap.size w)
 have H : (spec_Trigrams.l0 k l0 ([] : List Int) 0) = some r := h
 clear h
 have H' := zA H
 clear H
 go_enter Try.func19, Try.ntmps19
 go_wp2
 go_loopg [3, 4] k (fun kq v3 v4 w' => ∃ (x3_1 : List Int) (x4_1 : Int), v4 = .int .i64 x4_1 ∧ Aside0 (spec_Trigrams.l0 kq l0 x3_1 x4_1 = some r) ∧ Aside0 (kq ≤ k) ∧ Aside0 (Kd.R (Kd.int .i64) 3 w' w.heap.size (fun _ => True) v3 x3_1) ∧ Aside0 (Below w.heap.size w w'))
 case atStart => exact ⟨(([] : List Int)), (0), zq6, H', ⟨Nat.le_refl _⟩, ⟨zq21⟩, ⟨zq0⟩⟩
 case round =>
  clear H'
  try clear c1
  obtain ⟨x3_1, x4_1, rfl, HA, HK1, HO_3, HB⟩ := hrel
  cases gk with
  | zero => exact absurd HA.out (by simp [spec_Trigrams.l0])
  | succ k1 =>
   have H := HA.out
   clear HA
   simp only [spec_Trigrams.l0] at H
   by_cases c2 : (wrap64 (x4_1 + 2)) < (l0.length : Int)
   ·rw [if_pos c2] at H
    have c2b0 : decide ((wrap64 (x4_1 + 2)) < (l0.length : Int)) = true := decide_eq_true c2
    clear c2
    by_cases c3 : 0 ≤ x4_1
    ·rw [if_pos c3] at H
     have c3b0 : decide (0 ≤ x4_1) = true := decide_eq_true c3
     clear c3
     by_cases c4 : x4_1 < (l0.length : Int)
     ·rw [if_pos c4] at H
      have c4b0 : decide (x4_1 < (l0.length : Int)) = true := decide_eq_true c4
      clear c4
      obtain ⟨ji5, hji5⟩ : ∃ j_ : Int, (wrap64 (x4_1 + 1)) = j_ := ⟨_, rfl⟩
      replace H : (if 0 ≤ (ji5) then (if (ji5) < (l0.length : Int) then (if 0 ≤ (wrap64 (x4_1 + 2)) then ((spec_l3num.f (wrap64 (rd l0 x4_1)) (wrap64 (rd l0 (ji5))) (wrap64 (rd l0 (wrap64 (x4_1 + 2))))).bind fun t221 => (if x3_1.length < 17592186044416 then (spec_Trigrams.l0 k1 l0 (x3_1 ++ [t221]) ji5) else (none))) else (none)) else (none)) else (none)) = some r := by first | (rw [hji5] at H; exact H) | (simp only [hji5] at H ⊢; exact H)
      have hji5w : (IntKind.i64.wrap (x4_1 + 1)) = ji5 := (i64_w _).trans hji5
      by_cases c6 : 0 ≤ (ji5)
      ·rw [if_pos c6] at H
       have c6b0 : decide (0 ≤ (ji5)) = true := decide_eq_true c6
       clear c6
       by_cases c7 : (ji5) < (l0.length : Int)
       ·rw [if_pos c7] at H
        have c7b0 : decide ((ji5) < (l0.length : Int)) = true := decide_eq_true c7
        clear c7
        obtain ⟨ji8, hji8⟩ : ∃ j_ : Int, (wrap64 (x4_1 + 2)) = j_ := ⟨_, rfl⟩
        replace H : (if 0 ≤ (ji8) then ((spec_l3num.f (wrap64 (rd l0 x4_1)) (wrap64 (rd l0 (ji5))) (wrap64 (rd l0 (ji8)))).bind fun t221 => (if x3_1.length < 17592186044416 then (spec_Trigrams.l0 k1 l0 (x3_1 ++ [t221]) ji5) else (none))) else (none)) = some r := by first | (rw [hji8] at H; exact H) | (simp only [hji8] at H ⊢; exact H)
        (try rw [hji8] at c2b0)
        have hji8w : (IntKind.i64.wrap (x4_1 + 2)) = ji8 := (i64_w _).trans hji8
        by_cases c9 : 0 ≤ (ji8)
        ·rw [if_pos c9] at H
         have c9b0 : decide (0 ≤ (ji8)) = true := decide_eq_true c9
         clear c9
         replace H := Option.bind_eq_some_iff.mp H
         obtain ⟨t221, A100, H⟩ := H
         replace H : (if x3_1.length < 17592186044416 then (spec_Trigrams.l0 k1 l0 (x3_1 ++ [t221]) ji5) else (none)) = some r := H
         have A10 := zA A100
         clear A100
         by_cases c11 : x3_1.length < 17592186044416
         ·rw [if_pos c11] at H
          have LMc11 := zA c11
          clear c11
          obtain ⟨y222, hy222⟩ : ∃ y_ : List Int, y_ = (x3_1 ++ [t221]) := ⟨_, rfl⟩
          replace H : (spec_Trigrams.l0 k1 l0 y222 ji5) = some r := by first | (rw [hy222]; with_reducible exact H) | (have H2_ := (Option.bind_some _ _).symm.trans H; rw [hy222]; with_reducible exact H2_) | (have H2_ := (Option.bind_some _ _).symm.trans H; with_reducible exact H2_) | with_reducible exact H | (rw [hy222]; exact H) | exact H
          have Ny222 := zA hy222
          clear hy222
          have H' := zA H
          clear H
          try go_wp2
          have n0_ := zA (Kd.R_drew HO_3.out)
          have n1_ := zA (below_drew1 HB.out)
          clear HO_3
          clear HB
          have HO_3 := n0_
          have HB := n1_
          clear n0_ n1_
          have p218 : 0 ≤ (x4_1 : Int) := of_decide_eq_true zq4
          have q218 : x4_1 < (l0.length : Int) := of_decide_eq_true zq4
          obtain ⟨ad218, e218, hx218_0⟩ := Kd.at_int HR0.out x4_1 p218 q218
          have hw218_0 := hx218_0
          cases e218
          replace hx218_0 := (HB.out.cell (World.block_lt_of_cell? w _ hx218_0)).trans hx218_0
          replace p218 := eq_true p218
          replace q218 := eq_true q218
          have p219 : 0 ≤ ((ji5) : Int) := of_decide_eq_true zq4
          have q219 : (ji5) < (l0.length : Int) := of_decide_eq_true zq4
          obtain ⟨ad219, e219, hx219_0⟩ := Kd.at_int HR0.out (ji5) p219 q219
          have hw219_0 := hx219_0
          obtain rfl : ad218 = ad219 := (by injection e219)
          replace hx219_0 := (HB.out.cell (World.block_lt_of_cell? w _ hx219_0)).trans hx219_0
          replace p219 := eq_true p219
          replace q219 := eq_true q219
          have p220 : 0 ≤ ((ji8) : Int) := of_decide_eq_true zq4
          have q220 : (ji8) < (l0.length : Int) := of_decide_eq_true zq4
          obtain ⟨ad220, e220, hx220_0⟩ := Kd.at_int HR0.out (ji8) p220 q220
          have hw220_0 := hx220_0
          obtain rfl : ad218 = ad220 := (by injection e220)
          replace hx220_0 := (HB.out.cell (World.block_lt_of_cell? w _ hx220_0)).trans hx220_0
          replace p220 := eq_true p220
          replace q220 := eq_true q220
          refine start_ (n := 22) (S := fun w' => w'.cell? (ad218.add (x4_1).toNat) = some (.int .u8 (rd l0 x4_1)) ∧ w'.cell? (ad218.add ((ji5)).toNat) = some (.int .u8 (rd l0 (ji5))) ∧ w'.cell? (ad218.add ((ji8)).toNat) = some (.int .u8 (rd l0 (ji8)))) (ds := []) #[false, false, false, false, false, false, false, false, false, false, false, false, false, false, false, false, false, false, false, false, false, false] zq12 rfl rfl ⟨((HB.out.cell (World.block_lt_of_cell? w _ hw218_0)).trans hw218_0), ((HB.out.cell (World.block_lt_of_cell? w _ hw219_0)).trans hw219_0), ((HB.out.cell (World.block_lt_of_cell? w _ hw220_0)).trans hw220_0)⟩ (fun hHeld => ?_); refine with_tabW spec_Trigrams.tab5 spec_Trigrams.bits5 (fun HT_ HW_ => ?_)
          generalize wr.drew = w12 at HO_3 HB hx218_0 hx219_0 hx220_0 hHeld ⊢
          refine pure_ (i := 0) (N := some 12) (v := ?_) (a' := ?_) #[true, false, false, false, false, false, false, false, false, false, false, false, false, false, false, false, false, false, false, false, false, false] rfl rfl (any_of HT_.out zq12) (fun _ _ _ h => h) (Or.inl ⟨by rfl, ?_⟩) ?_ ?_
          rotate_left
          ·intro w'
           go_simp
           with_reducible rfl
          rotate_left
          ·simp only [Act.put, List.setIfInBounds_toArray, List.set_cons_zero, List.set_cons_succ, i64_w, i32_w]
           rfl
          refine pure_ (i := 1) (N := some 13) (v := ?_) (a' := ?_) #[true, true, false, false, false, false, false, false, false, false, false, false, false, false, false, false, false, false, false, false, false, false] rfl rfl (any_of HT_.out zq12) (fun _ _ _ h => h) (Or.inl ⟨by rfl, ?_⟩) ?_ ?_
          rotate_left
          ·intro w'
           go_simp
           with_reducible rfl
          rotate_left
          ·simp only [Act.put, List.setIfInBounds_toArray, List.set_cons_zero, List.set_cons_succ, i64_w, i32_w]
           rfl
          refine pure_ (i := 2) (N := some 14) (v := ?_) (a' := ?_) #[true, true, true, false, false, false, false, false, false, false, false, false, false, false, false, false, false, false, false, false, false, false] rfl rfl (any_of HT_.out zq12) (fun _ _ _ h => h) (Or.inl ⟨by rfl, ?_⟩) ?_ ?_
          rotate_left
          ·intro w'
           go_simp
           with_reducible rfl
          rotate_left
          ·simp only [Act.put, List.setIfInBounds_toArray, List.set_cons_zero, List.set_cons_succ, i64_w, i32_w]
           rfl
          refine pure_ (i := 3) (N := some 15) (v := ?_) (a' := ?_) #[true, true, true, true, false, false, false, false, false, false, false, false, false, false, false, false, false, false, false, false, false, false] rfl rfl (any_of HT_.out zq12) (fun _ _ _ h => h) (Or.inl ⟨by rfl, ?_⟩) ?_ ?_
          rotate_left
          ·intro w'
           go_simp
           with_reducible rfl
          rotate_left
          ·simp only [Act.put, List.setIfInBounds_toArray, List.set_cons_zero, List.set_cons_succ, i64_w, i32_w]
           rfl
          refine pure_ (i := 6) (N := some 18) (v := ?_) (a' := ?_) #[true, true, true, true, false, false, true, false, false, false, false, false, false, false, false, false, false, false, false, false, false, false] rfl rfl (any_of HT_.out zq12) (fun _ _ _ h => h) (Or.inl ⟨by rfl, ?_⟩) ?_ ?_
          rotate_left
          ·intro w'
           go_simp
           with_reducible rfl
          rotate_left
          ·simp only [Act.put, List.setIfInBounds_toArray, List.set_cons_zero, List.set_cons_succ, i64_w, i32_w]
           rfl
          refine pure_ (i := 7) (N := some 19) (v := ?_) (a' := ?_) #[true, true, true, true, false, false, true, true, false, false, false, false, false, false, false, false, false, false, false, false, false, false] rfl rfl (any_of HT_.out zq12) (fun _ _ _ h => h) (Or.inl ⟨by rfl, ?_⟩) ?_ ?_
          rotate_left
          ·intro w'
           go_simp
           with_reducible rfl
          rotate_left
          ·simp only [Act.put, List.setIfInBounds_toArray, List.set_cons_zero, List.set_cons_succ, i64_w, i32_w]
           rfl
          refine pure_ (i := 8) (N := some 20) (v := ?_) (a' := ?_) #[true, true, true, true, false, false, true, true, true, false, false, false, false, false, false, false, false, false, false, false, false, false] rfl rfl (any_of HT_.out zq12) (fun _ _ _ h => h) (Or.inl ⟨by rfl, ?_⟩) ?_ ?_
          rotate_left
          ·intro w'
           go_simp
           with_reducible rfl
          rotate_left
          ·simp only [Act.put, List.setIfInBounds_toArray, List.set_cons_zero, List.set_cons_succ, i64_w, i32_w]
           rfl
          refine pure_ (i := 9) (N := some 21) (v := ?_) (a' := ?_) #[true, true, true, true, false, false, true, true, true, true, false, false, false, false, false, false, false, false, false, false, false, false] rfl rfl (any_of HT_.out zq12) (fun _ _ _ h => h) (Or.inl ⟨by rfl, ?_⟩) ?_ ?_
          rotate_left
          ·intro w'
           go_simp
           with_reducible rfl
          rotate_left
          ·simp only [Act.put, List.setIfInBounds_toArray, List.set_cons_zero, List.set_cons_succ, i64_w, i32_w]
           rfl
          refine pure_ (i := 12) (N := some 24) (v := ?_) (a' := ?_) #[true, true, true, true, false, false, true, true, true, true, false, false, true, false, false, false, false, false, false, false, false, false] rfl rfl (any_of HT_.out zq12) (fun _ _ _ h => h) (Or.inl ⟨by rfl, ?_⟩) ?_ ?_
          rotate_left
          ·intro w'
           go_simp
           with_reducible rfl
          rotate_left
          ·simp only [Act.put, List.setIfInBounds_toArray, List.set_cons_zero, List.set_cons_succ, i64_w, i32_w]
           rfl
          refine pure_ (i := 13) (N := some 25) (v := ?_) (a' := ?_) #[true, true, true, true, false, false, true, true, true, true, false, false, true, true, false, false, false, false, false, false, false, false] rfl rfl (any_of HT_.out zq12) (fun _ _ _ h => h) (Or.inl ⟨by rfl, ?_⟩) ?_ ?_
          rotate_left
          ·intro w'
           go_simp
           with_reducible rfl
          rotate_left
          ·simp only [Act.put, List.setIfInBounds_toArray, List.set_cons_zero, List.set_cons_succ, i64_w, i32_w]
           rfl
          refine pure_ (i := 14) (N := some 26) (v := ?_) (a' := ?_) #[true, true, true, true, false, false, true, true, true, true, false, false, true, true, true, false, false, false, false, false, false, false] rfl rfl (any_of HT_.out zq12) (fun _ _ _ h => h) (Or.inl ⟨by rfl, ?_⟩) ?_ ?_
          rotate_left
          ·intro w'
           go_simp
           with_reducible rfl
          rotate_left
          ·simp only [Act.put, List.setIfInBounds_toArray, List.set_cons_zero, List.set_cons_succ, i64_w, i32_w]
           rfl
          refine pure_ (i := 15) (N := some 27) (v := ?_) (a' := ?_) #[true, true, true, true, false, false, true, true, true, true, false, false, true, true, true, true, false, false, false, false, false, false] rfl rfl (any_of HT_.out zq12) (fun _ _ _ h => h) (Or.inl ⟨by rfl, ?_⟩) ?_ ?_
          rotate_left
          ·intro w'
           go_simp
           with_reducible rfl
          rotate_left
          ·simp only [Act.put, List.setIfInBounds_toArray, List.set_cons_zero, List.set_cons_succ, i64_w, i32_w]
           rfl
          refine take_ (i := 4) (N := some 16) (v := ?_) (a' := ?_) #[true, true, true, true, true, false, true, true, true, true, false, false, true, true, true, true, false, false, false, false, false, false] rfl rfl (take_ofW HT_.out HW_.out zq12) (fun _ _ _ h => h) (Or.inl ⟨by rfl, ?_⟩) hHeld ?_ ?_
          rotate_left
          ·rintro w' ⟨s0, s1, s2⟩
           go_simp
           with_reducible rfl
          rotate_left
          ·simp only [Act.put, List.setIfInBounds_toArray, List.set_cons_zero, List.set_cons_succ, i64_w, i32_w]
           rfl
          refine pure_ (i := 5) (N := some 17) (v := ?_) (a' := ?_) #[true, true, true, true, true, true, true, true, true, true, false, false, true, true, true, true, false, false, false, false, false, false] rfl rfl (any_of HT_.out zq12) (fun _ _ _ h => h) (Or.inl ⟨by rfl, ?_⟩) ?_ ?_
          rotate_left
          ·intro w'
           go_simp
           with_reducible rfl
          rotate_left
          ·simp only [Act.put, List.setIfInBounds_toArray, List.set_cons_zero, List.set_cons_succ, i64_w, i32_w]
           rfl
          refine take_ (i := 10) (N := some 22) (v := ?_) (a' := ?_) #[true, true, true, true, true, true, true, true, true, true, true, false, true, true, true, true, false, false, false, false, false, false] rfl rfl (take_ofW HT_.out HW_.out zq12) (fun _ _ _ h => h) (Or.inl ⟨by rfl, ?_⟩) hHeld ?_ ?_
          rotate_left
          ·rintro w' ⟨s0, s1, s2⟩
           go_simp
           with_reducible rfl
          rotate_left
          ·simp only [Act.put, List.setIfInBounds_toArray, List.set_cons_zero, List.set_cons_succ, i64_w, i32_w]
           rfl
          refine pure_ (i := 11) (N := some 23) (v := ?_) (a' := ?_) #[true, true, true, true, true, true, true, true, true, true, true, true, true, true, true, true, false, false, false, false, false, false] rfl rfl (any_of HT_.out zq12) (fun _ _ _ h => h) (Or.inl ⟨by rfl, ?_⟩) ?_ ?_
          rotate_left
          ·intro w'
           go_simp
           with_reducible rfl
          rotate_left
          ·simp only [Act.put, List.setIfInBounds_toArray, List.set_cons_zero, List.set_cons_succ, i64_w, i32_w]
           rfl
          refine take_ (i := 16) (N := some 28) (v := ?_) (a' := ?_) #[true, true, true, true, true, true, true, true, true, true, true, true, true, true, true, true, true, false, false, false, false, false] rfl rfl (take_ofW HT_.out HW_.out zq12) (fun _ _ _ h => h) (Or.inl ⟨by rfl, ?_⟩) hHeld ?_ ?_
          rotate_left
          ·rintro w' ⟨s0, s1, s2⟩
           go_simp
           with_reducible rfl
          rotate_left
          ·simp only [Act.put, List.setIfInBounds_toArray, List.set_cons_zero, List.set_cons_succ, i64_w, i32_w]
           rfl
          refine pure_ (i := 17) (N := some 29) (v := ?_) (a' := ?_) #[true, true, true, true, true, true, true, true, true, true, true, true, true, true, true, true, true, true, false, false, false, false] rfl rfl (any_of HT_.out zq12) (fun _ _ _ h => h) (Or.inl ⟨by rfl, ?_⟩) ?_ ?_
          rotate_left
          ·intro w'
           go_simp
           with_reducible rfl
          rotate_left
          ·simp only [Act.put, List.setIfInBounds_toArray, List.set_cons_zero, List.set_cons_succ, i64_w, i32_w]
           rfl
          refine one_ (i := 18) (N := some 30) #[true, true, true, true, true, true, true, true, true, true, true, true, true, true, true, true, true, true, true, false, false, false] rfl rfl (one_of HT_.out zq12) zq13 (fun K hK => ?_)
          refine goes_ Try.func72 zq12 rfl #[.int .i64 (wrap64 (rd l0 x4_1)), .int .i64 (wrap64 (rd l0 (ji5))), .int .i64 (wrap64 (rd l0 (ji8)))] (by rfl) rfl rfl (by (try simp only [List.map_toArray, List.map_cons, List.map_nil]); first | done | (simp only [hji5, hji8]; rfl) | rfl | (simp only [List.length_drop, List.length_take]; rfl)) ?_
          with_reducible refine (spec_l3num.calls (wrap64 (rd l0 x4_1)) (wrap64 (rd l0 (ji5))) (wrap64 (rd l0 (ji8))) t221 _ A10.out).mono ?_
          rintro e w' ⟨rfl, ⟨nd, rfl⟩⟩
          refine ⟨_, rfl, ?_⟩
          refine hK.out _ _ ⟨((HB.out.cell (World.block_lt_of_cell? w _ hw218_0)).trans hw218_0), ((HB.out.cell (World.block_lt_of_cell? w _ hw219_0)).trans hw219_0), ((HB.out.cell (World.block_lt_of_cell? w _ hw220_0)).trans hw220_0)⟩ (fun hHeld => ?_)
          clear hK K
          refine norm_ (a' := ?_) ?_ ?_
          rotate_left
          ·show Act.put _ (some 30) _ = _
           simp only [Act.put, List.setIfInBounds_toArray, List.set_cons_zero, List.set_cons_succ, i64_w, i32_w]
           rfl
          refine one_ (i := 19) (N := some 31) #[true, true, true, true, true, true, true, true, true, true, true, true, true, true, true, true, true, true, true, true, false, false] rfl rfl (one_of HT_.out zq12) zq13 (fun K hK => ?_)
          refine value_ (w1 := ?_) (v := ?_) (by rfl) rfl ?_ ?_
          rotate_left 2
          ·go_simp
           constructor
           ·rfl
           ·rfl
          refine hK.out _ _ ⟨(World.cell?_alloc_lt _ _ _ (World.block_lt_of_cell? _ _ (((HB.out.cell (World.block_lt_of_cell? w _ hw218_0)).trans hw218_0)))).trans (((HB.out.cell (World.block_lt_of_cell? w _ hw218_0)).trans hw218_0)), (World.cell?_alloc_lt _ _ _ (World.block_lt_of_cell? _ _ (((HB.out.cell (World.block_lt_of_cell? w _ hw219_0)).trans hw219_0)))).trans (((HB.out.cell (World.block_lt_of_cell? w _ hw219_0)).trans hw219_0)), (World.cell?_alloc_lt _ _ _ (World.block_lt_of_cell? _ _ (((HB.out.cell (World.block_lt_of_cell? w _ hw220_0)).trans hw220_0)))).trans (((HB.out.cell (World.block_lt_of_cell? w _ hw220_0)).trans hw220_0))⟩ (fun hHeld => ?_)
          clear hK K
          refine norm_ (a' := ?_) ?_ ?_
          rotate_left
          ·show Act.put _ (some 31) _ = _
           simp only [Act.put, List.setIfInBounds_toArray, List.set_cons_zero, List.set_cons_succ, i64_w, i32_w]
           rfl
          refine one_ (i := 20) (N := some 32) #[true, true, true, true, true, true, true, true, true, true, true, true, true, true, true, true, true, true, true, true, true, false] rfl rfl (one_of HT_.out zq12) zq13 (fun K hK => ?_)
          refine Kd.R_append_step (Kd.int .i64) (w0 := w) w.heap.size (by rfl) (.tmp 12) (.tmp 31) 22 3 (.int .i64 0) 8 rfl Try.underlying22 info3 rfl zq13 zq3 u3 x3_1 t221 [.int .i64 t221] (fun _ => True) (fun _ => False) rfl rfl ?aP (fun _ hk => hk.elim) ?aF ?aO ?aB ?aS ?aL ?_
          (case aP => exact rfl)
          (case aB => exact zq0)
          (case aF => exact (fun _ _ => trivial))
          (case aO => exact zq15)
          (case aS => exact (below_size zq0))
          (case aL => have := LMc11.out; omega)
          intro v223 w13 ho hb hg hat
          rw [← Ny222.out] at ho
          have n0_ := zA (hb)
          have n1_ := zA (ho)
          clear HB
          clear HO_3
          have HB := n0_
          have HO224 := n1_
          clear n0_ n1_
          clear ho hb hg hat
          refine hK.out _ _ ⟨((HB.out.cell (World.block_lt_of_cell? w _ hw218_0)).trans hw218_0), ((HB.out.cell (World.block_lt_of_cell? w _ hw219_0)).trans hw219_0), ((HB.out.cell (World.block_lt_of_cell? w _ hw220_0)).trans hw220_0)⟩ (fun hHeld => ?_)
          clear hK K
          refine norm_ (a' := ?_) ?_ ?_
          rotate_left
          ·show Act.put _ (some 32) _ = _
           simp only [Act.put, List.setIfInBounds_toArray, List.set_cons_zero, List.set_cons_succ, i64_w, i32_w]
           rfl
          refine pure_ (i := 21) (N := some 3) (v := ?_) (a' := ?_) #[true, true, true, true, true, true, true, true, true, true, true, true, true, true, true, true, true, true, true, true, true, true] rfl rfl (any_of HT_.out zq12) (fun _ _ _ h => h) (Or.inl ⟨by rfl, ?_⟩) ?_ ?_
          rotate_left
          ·intro w'
           go_simp
           with_reducible rfl
          rotate_left
          ·simp only [Act.put, List.setIfInBounds_toArray, List.set_cons_zero, List.set_cons_succ, i64_w, i32_w]
           rfl
          refine done_ (done_of HT_.out zq12) ?_
          try go_wp2
          go_roundg k1
          case measure => have := HK1.out; omega
          case rel => exact ⟨(y222), (ji5), zq53, H', ⟨zq39⟩, ⟨by (with_reducible repeat (first | apply Kd.R_alloc | apply Kd.R_drewN | apply Kd.R_drew)); exact HO224.out⟩, ⟨zq0⟩⟩
         ·rw [if_neg c11] at H
          exact absurd H zq14
        ·rw [if_neg c9] at H
         exact absurd H zq14
       ·rw [if_neg c7] at H
        exact absurd H zq14
      ·rw [if_neg c6] at H
       exact absurd H zq14
     ·rw [if_neg c4] at H
      exact absurd H zq14
    ·rw [if_neg c3] at H
     exact absurd H zq14
   ·rw [if_neg c2] at H
    have c2b0 : decide ((wrap64 (x4_1 + 2)) < (l0.length : Int)) = false := decide_eq_false c2
    clear c2
    replace H := Option.bind_eq_some_iff.mp H
    obtain ⟨t225, A140, H⟩ := H
    replace H : (some t225) = some r := H
    have A14 := zA A140
    clear A140
    obtain rfl := Option.some.inj H
    obtain ⟨Ao15, co15, eo15⟩ := Kd.R_slice HO_3.out
    subst eo15
    go_wp2_with (first | ((with_reducible refine gate_callee (f := 73) rfl ?_); refine goesL_ (some 34) rfl rfl Try.func73 zq12 rfl #[.slice Ao15 x3_1.length co15] rfl zq2 ?_; (with_reducible refine (spec_l3order.calls k1 _ _ x3_1 t225 _ ?side1 ?side2 A14.out).mono ?_); (case side1 => repeat (first | exact (Kd.R_reads' HO_3.out).2.2 | (with_reducible refine Kd.C_alloc ?_ _) | (with_reducible refine Kd.C_drewN ?_ _) | (with_reducible refine Kd.C_drew ?_))); (case side2 => exact (Kd.R_reads' HO_3.out).2.1); rintro e w16 ⟨v226, rfl, ho0, hb⟩; refine ⟨_, rfl, ?_⟩; have n0_ := zA (Kd.R_elder' zq15 (Kd.R_base ho0) hb); have n1_ := zA (Kd.R_lower (Kd.R_new' ho0 (Kd.R_lt zq15)) (below_size zq0)); have n2_ := zA (below_step zq0 hb); clear HO_3; clear HB; have HO_3 := n0_; have HO227 := n1_; have HB := n2_; clear n0_ n1_ n2_; (try clear hb); (try clear hb2); (try clear hk); (try clear hi); (try clear ho0)))
    go_ret
    exact ⟨_, zq9, by (with_reducible repeat (first | apply Kd.R_alloc | apply Kd.R_drewN | apply Kd.R_drew)); exact Kd.R_mono HO227.out (fun _ hk => trivial), zq0⟩
end Go.Proofs.Ytmgmdnmfalepkaa.L
