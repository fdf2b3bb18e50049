/- Parts of the proof (see the row's own text): Lenc. -/
import Derived.Test.YtmgmdnmfalepkaaGreatG00
import Derived.Test.YtmgmdnmfalepkaaGreatG4
namespace Go.Proofs.YtmgmdnmfalepkaaGreat.L
open Go.RowKit Go.Proofs.YtmgmdnmfalepkaaGreatW.PrintWords Go.Proofs.YtmgmdnmfalepkaaGreatW.PrintLast Go.Proofs.YtmgmdnmfalepkaaGreatW.PrintMore
attribute [local go_sem] max2_int min2_int max_two min_two max_three min_three max_four min_four
set_option linter.unusedVariables false
set_option linter.unusedSimpArgs false
def spec_l4varint.f : Nat → Int → Option (List Int)
 | 0, _ => none
 | k + 1, a0 => if a0 < 128 then (some (([(a0) % 256] : List Int))) else ((some (([(wrap64 ((Int.tmod a0 128) + 128)) % 256] : List Int) : List Int)).bind fun y253 => ((spec_l4varint.f k (wrap64 (Int.tdiv a0 128))).bind fun t256 => (if y253.length + t256.length < 140737488355328 then (some (y253 ++ t256)) else (none))))
theorem spec_l4varint.mono_l : ∀ k, (∀ y0, LeO (spec_l4varint.f k y0) (spec_l4varint.f (k + 1) y0))
 | 0 => fun _ r h => by simp [spec_l4varint.f] at h
 | k + 1 => by
  have ih0 := spec_l4varint.mono_l k
  ·intro y0
   unfold spec_l4varint.f
   repeat' first
   | (with_reducible exact ih0 _)
   | (with_reducible exact LeO.refl _)
   | (with_reducible exact LeO.none _)
   | (with_reducible refine LeO.ite ?_ ?_)
   | (with_reducible refine LeO.bind ?_ (fun _ => ?_))
   | exact ih0 _
   | exact LeO.none _
   | refine LeO.ite ?_ ?_
   | refine LeO.bind ?_ (fun _ => ?_)
theorem spec_l4varint.mono : ∀ a0 k, LeO (spec_l4varint.f k a0) (spec_l4varint.f (k + 1) a0) := by
 intro a0 k
 have ih0 := spec_l4varint.mono_l k
 exact ih0 a0
set_option maxHeartbeats 8000000 in
set_option maxRecDepth 100000 in
theorem spec_l4varint.calls (k : Nat) : ∀ (a0 : Int) (r : List Int) (w : World) (h : spec_l4varint.f k a0 = some r),
  Calls Tryz.prog 81 #[.int .i64 a0] w fun e w' => ∃ v0_ : Value, e = .returned (v0_) ∧ Kd.R (Kd.int .u8) 5 w' w.heap.size (fun _ => True) v0_ r ∧ Below w.heap.size w w' := by
 induction k using Nat.strongRecOn with
 | _ k ih =>
 intro a0 r w h
 cases k with
 | zero => exact absurd h (by simp [spec_l4varint.f])
 | succ k =>
 simp only [spec_l4varint.f] at h
 have HB := zA (Below.refl w.heap.size w)
 have H : (if a0 < 128 then (some (([(a0) % 256] : List Int))) else ((some (([(wrap64 ((Int.tmod a0 128) + 128)) % 256] : List Int) : List Int)).bind fun y253 => ((spec_l4varint.f k (wrap64 (Int.tdiv a0 128))).bind fun t256 => (if y253.length + t256.length < 140737488355328 then (some (y253 ++ t256)) else (none))))) = some r := h
 clear h
 by_cases c2 : a0 < 128
 ·rw [if_pos c2] at H
  have c2b0 : decide (a0 < 128) = true := decide_eq_true c2
  clear c2
  obtain ⟨y250, hy250⟩ : ∃ y_ : List Int, y_ = (([(a0) % 256] : List Int)) := ⟨_, rfl⟩
  replace H : (some y250) = some r := by first | (rw [hy250]; with_reducible exact H) | (have H2_ := (Option.bind_some _ _).symm.trans H; rw [hy250]; with_reducible exact H2_) | (have H2_ := (Option.bind_some _ _).symm.trans H; with_reducible exact H2_) | with_reducible exact H | (rw [hy250]; exact H) | exact H
  have Ny250 := zA hy250
  clear hy250
  obtain rfl := Option.some.inj H
  go_enter Tryz.func81, Tryz.ntmps81
  go_wp2_with (first | ((with_reducible refine gate_dst (N := 8) rfl ?_); refine Kd.R_lit (Kd.int .u8) _ 5 ?hg (N := 8) ?hd (xs := ([(a0) % 256] : List Int)) (inner := [.int .u8 ((a0) % 256)]) (ok := fun _ => True) (okp := fun _ => True) ?hr ?hp (fun _ hk => hk) trivial (Below.refl _ _) (Nat.le_refl _) zq12 ?_; (case hd => rfl); (case hg => rfl); (case hr => first | (go_simp; done) | (go_simp; rfl)); (case hp => exact (Reps.one (show Kd.M (Kd.int .u8) _ _ _ ((a0) % 256) [.int .u8 ((a0) % 256)] from rfl) (Reps.none _ _))); intro v251 w3 ho4 hb hg_ hnew_; clear hg_ hnew_; (first | rw [← Ny250.out] at ho4 | (simp only [Int.reduceToNat] at ho4; rw [← Ny250.out] at ho4)); have n0_ := zA (Kd.R_lower ho4 (below_size zq0)); have n1_ := zA (below_step zq0 hb); clear HB; have HO252 := n0_; have HB := n1_; clear n0_ n1_; clear hb ho4))
  go_ret
  exact ⟨_, zq9, by (with_reducible repeat (first | apply Kd.R_alloc | apply Kd.R_drewN | apply Kd.R_drew)); exact HO252.out, zq0⟩
 ·rw [if_neg c2] at H
  have c2b0 : decide (a0 < 128) = false := decide_eq_false c2
  clear c2
  obtain ⟨y253, hy253⟩ : ∃ y_ : List Int, y_ = (([(wrap64 ((Int.tmod a0 128) + 128)) % 256] : List Int)) := ⟨_, rfl⟩
  replace H : ((spec_l4varint.f k (wrap64 (Int.tdiv a0 128))).bind fun t256 => (if y253.length + t256.length < 140737488355328 then (some (y253 ++ t256)) else (none))) = some r := by first | (rw [hy253]; with_reducible exact H) | (have H2_ := (Option.bind_some _ _).symm.trans H; rw [hy253]; with_reducible exact H2_) | (have H2_ := (Option.bind_some _ _).symm.trans H; with_reducible exact H2_) | with_reducible exact H | (rw [hy253]; exact H) | exact H
  have Ny253 := zA hy253
  clear hy253
  replace H := Option.bind_eq_some_iff.mp H
  obtain ⟨t256, A50, H⟩ := H
  replace H : (if y253.length + t256.length < 140737488355328 then (some (y253 ++ t256)) else (none)) = some r := H
  have A5 := zA A50
  clear A50
  by_cases c6 : y253.length + t256.length < 140737488355328
  ·rw [if_pos c6] at H
   have LMc6 := zA c6
   clear c6
   obtain ⟨y259, hy259⟩ : ∃ y_ : List Int, y_ = (y253 ++ t256) := ⟨_, rfl⟩
   replace H : (some y259) = some r := by first | (rw [hy259]; with_reducible exact H) | (have H2_ := (Option.bind_some _ _).symm.trans H; rw [hy259]; with_reducible exact H2_) | (have H2_ := (Option.bind_some _ _).symm.trans H; with_reducible exact H2_) | with_reducible exact H | (rw [hy259]; exact H) | exact H
   have Ny259 := zA hy259
   clear hy259
   obtain rfl := Option.some.inj H
   go_enter Tryz.func81, Tryz.ntmps81
   go_wp2_with (first | ((with_reducible refine gate_dst (N := 13) rfl ?_); refine Kd.R_lit (Kd.int .u8) _ 5 ?hg (N := 13) ?hd (xs := ([(wrap64 ((Int.tmod a0 128) + 128)) % 256] : List Int)) (inner := [.int .u8 ((wrap64 ((Int.tmod a0 128) + 128)) % 256)]) (ok := fun _ => True) (okp := fun _ => True) ?hr ?hp (fun _ hk => hk) trivial (Below.refl _ _) (Nat.le_refl _) zq12 ?_; (case hd => rfl); (case hg => rfl); (case hr => first | (go_simp; done) | (go_simp; rfl)); (case hp => exact (Reps.one (show Kd.M (Kd.int .u8) _ _ _ ((wrap64 ((Int.tmod a0 128) + 128)) % 256) [.int .u8 ((wrap64 ((Int.tmod a0 128) + 128)) % 256)] from rfl) (Reps.none _ _))); intro v254 w7 ho8 hb hg_ hnew_; clear hg_ hnew_; (first | rw [← Ny253.out] at ho8 | (simp only [Int.reduceToNat] at ho8; rw [← Ny253.out] at ho8)); have n0_ := zA (Kd.R_lower ho8 (below_size zq0)); have n1_ := zA (below_step zq0 hb); clear HB; have HO255 := n0_; have HB := n1_; clear n0_ n1_; clear hb ho8) | ((with_reducible refine gate_callee (f := 81) rfl ?_); refine goesL_ (some 17) rfl rfl Tryz.func81 zq5 rfl #[.int .i64 (wrap64 (Int.tdiv a0 128))] rfl zq6 ?_; (with_reducible refine (ih k zq1 (wrap64 (Int.tdiv a0 128)) t256 _ A5.out).mono ?_); rintro e w9 ⟨v257, rfl, ho0, hb⟩; refine ⟨_, rfl, ?_⟩; have n0_ := zA (Kd.R_elder' (by (with_reducible repeat (first | apply Kd.R_alloc | apply Kd.R_drewN | apply Kd.R_drew)); exact HO255.out) (Kd.R_base ho0) hb); have n1_ := zA (Kd.R_lower (Kd.R_new' ho0 (Kd.R_lt (by (with_reducible repeat (first | apply Kd.R_alloc | apply Kd.R_drewN | apply Kd.R_drew)); exact HO255.out))) (below_size zq0)); have n2_ := zA (below_step zq0 hb); clear HO255; clear HB; have HO255 := n0_; have HO258 := n1_; have HB := n2_; clear n0_ n1_ n2_; (try clear hb); (try clear hb2); (try clear hk); (try clear hi); (try clear ho0); obtain ⟨Ao11, co11, eo11⟩ := Kd.R_slice HO258.out; subst eo11) | ((with_reducible refine gate_builtin (b := .append) (xs := #[.tmp 14, .tmp 17]) rfl ?_); at_builtin; refine Kd.R_append_rows (Kd.int .u8) (w0 := w) w.heap.size rfl (.tmp 14) (.tmp 17) 25 5 (.int .u8 0) 1 rfl Tryz.underlying25 info5 rfl zq15 zq1 v254 y253 t256 _ _ _ (fun k_ => some k_ ≠ (.slice Ao11 t256.length co11 : Value).ownBlock) (fun _ => False) rfl rfl ?aO ?aR (fun _ _ h => h) (fun _ h => h.elim) ?aF ?aB ?aS ?aL ?_; (case aR => repeat (first | exact (Kd.R_reads' HO258.out).2.2 | (with_reducible refine Kd.C_alloc ?_ _) | (with_reducible refine Kd.C_drewN ?_ _) | (with_reducible refine Kd.C_drew ?_))); (case aB => exact zq0); (case aF => exact (fun k_ hk => Kd.fresh' (Kd.R_lt (by (with_reducible repeat (first | apply Kd.R_alloc | apply Kd.R_drewN | apply Kd.R_drew)); exact HO258.out)) k_ hk)); (case aO => exact (by (with_reducible repeat (first | apply Kd.R_alloc | apply Kd.R_drewN | apply Kd.R_drew)); exact Kd.R_mono HO255.out (fun _ hk => hk.2))); (case aS => exact (below_size zq0)); (case aL => have := LMc6.out; omega); intro v260 w10 ho hb hg hat; rw [← Ny259.out] at ho; have n0_ := zA (Kd.R_after (ok := (fun _ => True)) (by (with_reducible repeat (first | apply Kd.R_alloc | apply Kd.R_drewN | apply Kd.R_drew)); exact HO258.out) hg hat); have n1_ := zA (hb); have n2_ := zA (ho); clear HO258; clear HB; clear HO255; have HO258 := n0_; have HB := n1_; have HO261 := n2_; clear n0_ n1_ n2_; clear ho hb hg hat))
   go_ret
   exact ⟨_, zq9, by (with_reducible repeat (first | apply Kd.R_alloc | apply Kd.R_drewN | apply Kd.R_drew)); exact Kd.R_mono HO261.out (fun _ hk => trivial), zq0⟩
  ·rw [if_neg c6] at H
   exact absurd H zq12
mutual
def spec_l4body.l0 : Nat → List Int → Int → Int → List (List Int) → List Int → List (List Int) → Option (List Int)
 | 0, _, _, _, _, _, _ => none
 | k + 1, x3, x4, x263000, x263001, x263002, x263003 => if x4 < (x263001.length : Int) then (if 0 ≤ x4 then ((spec_l4varint.f k ((rd_L1 x263001 x4).length : Int)).bind fun t279 => (if x3.length + t279.length < 140737488355328 then ((some (x3 ++ t279 : List Int)).bind fun y282 => (if y282.length + (rd_L1 x263001 x4).length < 140737488355328 then (spec_l4body.l0 k (y282 ++ (rd_L1 x263001 x4)) (wrap64 (x4 + 1)) x263000 x263001 x263002 x263003) else (none))) else (none))) else (none)) else ((spec_l4varint.f k (x263002.length : Int)).bind fun t289 => (if x3.length + t289.length < 140737488355328 then (spec_l4body.l1 k (x3 ++ t289) 0 x263000 x263001 x263002 x263003) else (none)))
def spec_l4body.l1 : Nat → List Int → Int → Int → List (List Int) → List Int → List (List Int) → Option (List Int)
 | 0, _, _, _, _, _, _ => none
 | k + 1, x3, x5, x263000, x263001, x263002, x263003 => if x5 < (x263002.length : Int) then (if 0 ≤ x5 then (if x5 > 0 then (if 0 ≤ (wrap64 (x5 - 1)) then (if (wrap64 (x5 - 1)) < (x263002.length : Int) then (spec_l4body.j2 k x3 x5 (wrap64 ((rd x263002 x5) - (rd x263002 (wrap64 (x5 - 1))))) x263000 x263001 x263002 x263003) else (none)) else (none)) else (spec_l4body.j2 k x3 x5 (rd x263002 x5) x263000 x263001 x263002 x263003)) else (none)) else (some x3)
def spec_l4body.j2 : Nat → List Int → Int → Int → Int → List (List Int) → List Int → List (List Int) → Option (List Int)
 | 0, _, _, _, _, _, _, _ => none
 | k + 1, x3, x5, x6, x263000, x263001, x263002, x263003 => (spec_l4varint.f k x6).bind fun t297 => (if x3.length + t297.length < 140737488355328 then ((some (x3 ++ t297 : List Int)).bind fun y300 => (if 0 ≤ x5 then (if x5 < (x263003.length : Int) then ((spec_l4varint.f k ((rd_L3 x263003 x5).length : Int)).bind fun t304 => (if y300.length + t304.length < 140737488355328 then (spec_l4body.l2 k (y300 ++ t304) x5 0 x263000 x263001 x263002 x263003) else (none))) else (none)) else (none))) else (none))
def spec_l4body.l2 : Nat → List Int → Int → Int → Int → List (List Int) → List Int → List (List Int) → Option (List Int)
 | 0, _, _, _, _, _, _, _ => none
 | k + 1, x3, x5, x7, x263000, x263001, x263002, x263003 => if 0 ≤ x5 then (if x5 < (x263003.length : Int) then (if x7 < ((rd_L3 x263003 x5).length : Int) then (if x7 > 0 then (if 0 ≤ (wrap64 (x7 - 1)) then (if (wrap64 (x7 - 1)) < ((rd_L3 x263003 x5).length : Int) then (if 0 ≤ x7 then ((spec_l4varint.f k (wrap64 ((rd (rd_L3 x263003 x5) x7) - (rd (rd_L3 x263003 x5) (wrap64 (x7 - 1)))))).bind fun t315 => (if x3.length + t315.length < 140737488355328 then (spec_l4body.l2 k (x3 ++ t315) x5 (wrap64 (x7 + 1)) x263000 x263001 x263002 x263003) else (none))) else (none)) else (none)) else (none)) else (if 0 ≤ x7 then ((spec_l4varint.f k (wrap64 ((rd (rd_L3 x263003 x5) x7) - x263000))).bind fun t323 => (if x3.length + t323.length < 140737488355328 then (spec_l4body.l2 k (x3 ++ t323) x5 (wrap64 (x7 + 1)) x263000 x263001 x263002 x263003) else (none))) else (none))) else (spec_l4body.l1 k x3 (wrap64 (x5 + 1)) x263000 x263001 x263002 x263003)) else (none)) else (none)
end
def spec_l4body.f (k : Nat) (a0_0 : Int) (l0_1 : List (List Int)) (l0_2 : List Int) (l0_3 : List (List Int)) : Option (List Int) := (some (([84, 71] : List Int) : List Int)).bind fun y263 => ((spec_l4varint.f k a0_0).bind fun t266 => (if y263.length + t266.length < 140737488355328 then ((some (y263 ++ t266 : List Int)).bind fun y269 => ((spec_l4varint.f k (l0_1.length : Int)).bind fun t272 => (if y269.length + t272.length < 140737488355328 then (spec_l4body.l0 k (y269 ++ t272) 0 a0_0 l0_1 l0_2 l0_3) else (none)))) else (none)))
theorem spec_l4body.mono_l : ∀ k, (∀ y0 y1 y2 y3 y4 y5, LeO (spec_l4body.l0 k y0 y1 y2 y3 y4 y5) (spec_l4body.l0 (k + 1) y0 y1 y2 y3 y4 y5)) ∧ (∀ y0 y1 y2 y3 y4 y5, LeO (spec_l4body.l1 k y0 y1 y2 y3 y4 y5) (spec_l4body.l1 (k + 1) y0 y1 y2 y3 y4 y5)) ∧ (∀ y0 y1 y2 y3 y4 y5 y6, LeO (spec_l4body.j2 k y0 y1 y2 y3 y4 y5 y6) (spec_l4body.j2 (k + 1) y0 y1 y2 y3 y4 y5 y6)) ∧ (∀ y0 y1 y2 y3 y4 y5 y6, LeO (spec_l4body.l2 k y0 y1 y2 y3 y4 y5 y6) (spec_l4body.l2 (k + 1) y0 y1 y2 y3 y4 y5 y6))
 | 0 => ⟨fun _ _ _ _ _ _ r h => by simp [spec_l4body.l0] at h, fun _ _ _ _ _ _ r h => by simp [spec_l4body.l1] at h, fun _ _ _ _ _ _ _ r h => by simp [spec_l4body.j2] at h, fun _ _ _ _ _ _ _ r h => by simp [spec_l4body.l2] at h⟩
 | k + 1 => by
  obtain ⟨ih0, ih1, ih2, ih3⟩ := spec_l4body.mono_l k
  refine ⟨?_, ?_, ?_, ?_⟩
  ·intro y0 y1 y2 y3 y4 y5
   unfold spec_l4body.l0
   repeat' first
   | (with_reducible exact ih0 _ _ _ _ _ _)
   | (with_reducible exact ih1 _ _ _ _ _ _)
   | (with_reducible exact ih2 _ _ _ _ _ _ _)
   | (with_reducible exact ih3 _ _ _ _ _ _ _)
   | (with_reducible exact spec_l4varint.mono _ _)
   | (with_reducible exact LeO.refl _)
   | (with_reducible exact LeO.none _)
   | (with_reducible refine LeO.ite ?_ ?_)
   | (with_reducible refine LeO.bind ?_ (fun _ => ?_))
   | exact ih0 _ _ _ _ _ _
   | exact ih1 _ _ _ _ _ _
   | exact ih2 _ _ _ _ _ _ _
   | exact ih3 _ _ _ _ _ _ _
   | exact spec_l4varint.mono _ _
   | exact LeO.none _
   | refine LeO.ite ?_ ?_
   | refine LeO.bind ?_ (fun _ => ?_)
  ·intro y0 y1 y2 y3 y4 y5
   unfold spec_l4body.l1
   repeat' first
   | (with_reducible exact ih0 _ _ _ _ _ _)
   | (with_reducible exact ih1 _ _ _ _ _ _)
   | (with_reducible exact ih2 _ _ _ _ _ _ _)
   | (with_reducible exact ih3 _ _ _ _ _ _ _)
   | (with_reducible exact spec_l4varint.mono _ _)
   | (with_reducible exact LeO.refl _)
   | (with_reducible exact LeO.none _)
   | (with_reducible refine LeO.ite ?_ ?_)
   | (with_reducible refine LeO.bind ?_ (fun _ => ?_))
   | exact ih0 _ _ _ _ _ _
   | exact ih1 _ _ _ _ _ _
   | exact ih2 _ _ _ _ _ _ _
   | exact ih3 _ _ _ _ _ _ _
   | exact spec_l4varint.mono _ _
   | exact LeO.none _
   | refine LeO.ite ?_ ?_
   | refine LeO.bind ?_ (fun _ => ?_)
  ·intro y0 y1 y2 y3 y4 y5 y6
   unfold spec_l4body.j2
   repeat' first
   | (with_reducible exact ih0 _ _ _ _ _ _)
   | (with_reducible exact ih1 _ _ _ _ _ _)
   | (with_reducible exact ih2 _ _ _ _ _ _ _)
   | (with_reducible exact ih3 _ _ _ _ _ _ _)
   | (with_reducible exact spec_l4varint.mono _ _)
   | (with_reducible exact LeO.refl _)
   | (with_reducible exact LeO.none _)
   | (with_reducible refine LeO.ite ?_ ?_)
   | (with_reducible refine LeO.bind ?_ (fun _ => ?_))
   | exact ih0 _ _ _ _ _ _
   | exact ih1 _ _ _ _ _ _
   | exact ih2 _ _ _ _ _ _ _
   | exact ih3 _ _ _ _ _ _ _
   | exact spec_l4varint.mono _ _
   | exact LeO.none _
   | refine LeO.ite ?_ ?_
   | refine LeO.bind ?_ (fun _ => ?_)
  ·intro y0 y1 y2 y3 y4 y5 y6
   unfold spec_l4body.l2
   repeat' first
   | (with_reducible exact ih0 _ _ _ _ _ _)
   | (with_reducible exact ih1 _ _ _ _ _ _)
   | (with_reducible exact ih2 _ _ _ _ _ _ _)
   | (with_reducible exact ih3 _ _ _ _ _ _ _)
   | (with_reducible exact spec_l4varint.mono _ _)
   | (with_reducible exact LeO.refl _)
   | (with_reducible exact LeO.none _)
   | (with_reducible refine LeO.ite ?_ ?_)
   | (with_reducible refine LeO.bind ?_ (fun _ => ?_))
   | exact ih0 _ _ _ _ _ _
   | exact ih1 _ _ _ _ _ _
   | exact ih2 _ _ _ _ _ _ _
   | exact ih3 _ _ _ _ _ _ _
   | exact spec_l4varint.mono _ _
   | exact LeO.none _
   | refine LeO.ite ?_ ?_
   | refine LeO.bind ?_ (fun _ => ?_)
theorem spec_l4body.mono : ∀ a0 a1 a2 a3 k, LeO (spec_l4body.f k a0 a1 a2 a3) (spec_l4body.f (k + 1) a0 a1 a2 a3) := by
 intro a0 a1 a2 a3 k
 obtain ⟨ih0, ih1, ih2, ih3⟩ := spec_l4body.mono_l k
 unfold spec_l4body.f
 repeat' first
   | (with_reducible exact ih0 _ _ _ _ _ _)
   | (with_reducible exact ih1 _ _ _ _ _ _)
   | (with_reducible exact ih2 _ _ _ _ _ _ _)
   | (with_reducible exact ih3 _ _ _ _ _ _ _)
   | (with_reducible exact spec_l4varint.mono _ _)
   | (with_reducible exact LeO.refl _)
   | (with_reducible exact LeO.none _)
   | (with_reducible refine LeO.ite ?_ ?_)
   | (with_reducible refine LeO.bind ?_ (fun _ => ?_))
   | exact ih0 _ _ _ _ _ _
   | exact ih1 _ _ _ _ _ _
   | exact ih2 _ _ _ _ _ _ _
   | exact ih3 _ _ _ _ _ _ _
   | exact spec_l4varint.mono _ _
   | exact LeO.none _
   | refine LeO.ite ?_ ?_
   | refine LeO.bind ?_ (fun _ => ?_)
set_option maxHeartbeats 8000000 in
set_option maxRecDepth 100000 in
theorem spec_l4body.calls (k : Nat) (a0_0 : Int) (A0_1 : Option Addr) (c0_1 : Nat) (l0_1 : List (List Int)) (A0_2 : Option Addr) (c0_2 : Nat) (l0_2 : List Int) (A0_3 : Option Addr) (c0_3 : Nat) (l0_3 : List (List Int)) (r : List Int) (w : World) (hr0_1 : Kd.C (Kd.slice 5 (Kd.int .u8)) w A0_1 l0_1.length l0_1) (hc0_1 : l0_1.length ≤ c0_1) (hr0_2 : Kd.C (Kd.int .i64) w A0_2 l0_2.length l0_2) (hc0_2 : l0_2.length ≤ c0_2) (hr0_3 : Kd.C (Kd.slice 3 (Kd.int .i64)) w A0_3 l0_3.length l0_3) (hc0_3 : l0_3.length ≤ c0_3) (h : spec_l4body.f k a0_0 l0_1 l0_2 l0_3 = some r) :
  Calls Tryz.prog 59 #[.agg #[.int .i64 a0_0, .slice A0_1 l0_1.length c0_1, .slice A0_2 l0_2.length c0_2, .slice A0_3 l0_3.length c0_3]] w fun e w' => ∃ v0_ : Value, e = .returned (v0_) ∧ Kd.R (Kd.int .u8) 5 w' w.heap.size (fun _ => True) v0_ r ∧ Below w.heap.size w w' := by
 have hu59 := Tryz.underlying59
 have HR0_1 := zA hr0_1
 have HC0_1 := zA hc0_1
 clear hr0_1 hc0_1
 have HR0_2 := zA hr0_2
 have HC0_2 := zA hc0_2
 clear hr0_2 hc0_2
 have HR0_3 := zA hr0_3
 have HC0_3 := zA hc0_3
 clear hr0_3 hc0_3
 have HB := zA (Below.refl w.heap.size w)
 have H : ((some (([84, 71] : List Int) : List Int)).bind fun y263 => ((spec_l4varint.f k a0_0).bind fun t266 => (if y263.length + t266.length < 140737488355328 then ((some (y263 ++ t266 : List Int)).bind fun y269 => ((spec_l4varint.f k (l0_1.length : Int)).bind fun t272 => (if y269.length + t272.length < 140737488355328 then (spec_l4body.l0 k (y269 ++ t272) 0 a0_0 l0_1 l0_2 l0_3) else (none)))) else (none)))) = some r := h
 clear h
 obtain ⟨y263, hy263⟩ : ∃ y_ : List Int, y_ = (([84, 71] : List Int)) := ⟨_, rfl⟩
 replace H : ((spec_l4varint.f k a0_0).bind fun t266 => (if y263.length + t266.length < 140737488355328 then ((some (y263 ++ t266 : List Int)).bind fun y269 => ((spec_l4varint.f k (l0_1.length : Int)).bind fun t272 => (if y269.length + t272.length < 140737488355328 then (spec_l4body.l0 k (y269 ++ t272) 0 a0_0 l0_1 l0_2 l0_3) else (none)))) else (none))) = some r := by first | (rw [hy263]; with_reducible exact H) | (have H2_ := (Option.bind_some _ _).symm.trans H; rw [hy263]; with_reducible exact H2_) | (have H2_ := (Option.bind_some _ _).symm.trans H; with_reducible exact H2_) | with_reducible exact H | (rw [hy263]; exact H) | exact H
 have Ny263 := zA hy263
 clear hy263
 replace H := Option.bind_eq_some_iff.mp H
 obtain ⟨t266, A20, H⟩ := H
 replace H : (if y263.length + t266.length < 140737488355328 then ((some (y263 ++ t266 : List Int)).bind fun y269 => ((spec_l4varint.f k (l0_1.length : Int)).bind fun t272 => (if y269.length + t272.length < 140737488355328 then (spec_l4body.l0 k (y269 ++ t272) 0 a0_0 l0_1 l0_2 l0_3) else (none)))) else (none)) = some r := H
 have A2 := zA A20
 clear A20
 by_cases c3 : y263.length + t266.length < 140737488355328
 ·rw [if_pos c3] at H
  have LMc3 := zA c3
  clear c3
  obtain ⟨y269, hy269⟩ : ∃ y_ : List Int, y_ = (y263 ++ t266) := ⟨_, rfl⟩
  replace H : ((spec_l4varint.f k (l0_1.length : Int)).bind fun t272 => (if y269.length + t272.length < 140737488355328 then (spec_l4body.l0 k (y269 ++ t272) 0 a0_0 l0_1 l0_2 l0_3) else (none))) = some r := by first | (rw [hy269]; with_reducible exact H) | (have H2_ := (Option.bind_some _ _).symm.trans H; rw [hy269]; with_reducible exact H2_) | (have H2_ := (Option.bind_some _ _).symm.trans H; with_reducible exact H2_) | with_reducible exact H | (rw [hy269]; exact H) | exact H
  have Ny269 := zA hy269
  clear hy269
  replace H := Option.bind_eq_some_iff.mp H
  obtain ⟨t272, A40, H⟩ := H
  replace H : (if y269.length + t272.length < 140737488355328 then (spec_l4body.l0 k (y269 ++ t272) 0 a0_0 l0_1 l0_2 l0_3) else (none)) = some r := H
  have A4 := zA A40
  clear A40
  by_cases c5 : y269.length + t272.length < 140737488355328
  ·rw [if_pos c5] at H
   have LMc5 := zA c5
   clear c5
   obtain ⟨y275, hy275⟩ : ∃ y_ : List Int, y_ = (y269 ++ t272) := ⟨_, rfl⟩
   replace H : (spec_l4body.l0 k y275 0 a0_0 l0_1 l0_2 l0_3) = some r := by first | (rw [hy275]; with_reducible exact H) | (have H2_ := (Option.bind_some _ _).symm.trans H; rw [hy275]; with_reducible exact H2_) | (have H2_ := (Option.bind_some _ _).symm.trans H; with_reducible exact H2_) | with_reducible exact H | (rw [hy275]; exact H) | exact H
   have Ny275 := zA hy275
   clear hy275
   have H' := zA H
   clear H
   go_enter Tryz.func59, Tryz.ntmps59
   go_wp2_with (first | ((with_reducible refine gate_dst (N := 1) rfl ?_); refine box_event ?hg (N := 1) ?hd (cs := #[.int .i64 a0_0, .slice A0_1 l0_1.length c0_1, .slice A0_2 l0_2.length c0_2, .slice A0_3 l0_3.length c0_3]) (t := 59) ?hr ?_; (case hd => rfl); (case hg => rfl); (case hr => first | (go_simp; done) | (go_simp; rfl)); intro gb262 hg w6 hbox hb; have n0_ := zA (below_step zq0 hb); have n1_ := zA (hbox); have n2_ := zA ((by rw [hg]; exact (below_size zq0) : w.heap.size ≤ gb262)); have n3_ := zA ((by rw [hg]; exact (below_size zq0) : w.heap.size ≤ gb262)); clear HB; have HB := n0_; have BK262 := n1_; have GW262 := n2_; have GE262 := n3_; clear n0_ n1_ n2_ n3_; clear hb hbox hg) | ((with_reducible refine gate_dst (N := 9) rfl ?_); refine Kd.R_lit (Kd.int .u8) _ 5 ?hg (N := 9) ?hd (xs := ([84, 71] : List Int)) (inner := [.int .u8 84, .int .u8 71]) (ok := fun _ => True) (okp := fun _ => True) ?hr ?hp (fun _ hk => hk) trivial (Below.refl _ _) (Nat.le_refl _) zq12 ?_; (case hd => rfl); (case hg => rfl); (case hr => first | (go_simp; done) | (go_simp; rfl)); (case hp => exact (Reps.one (show Kd.M (Kd.int .u8) _ _ _ 84 [.int .u8 84] from rfl) (Reps.one (show Kd.M (Kd.int .u8) _ _ _ 71 [.int .u8 71] from rfl) (Reps.none _ _)))); intro v264 w7 ho8 hb hg_ hnew_; clear hg_ hnew_; (first | rw [← Ny263.out] at ho8 | (simp only [Int.reduceToNat] at ho8; rw [← Ny263.out] at ho8)); have n0_ := zA (Kd.R_lower ho8 (below_size (by repeat (first | (with_reducible first | exact HB.out | apply below_alloc | apply pw_below_drewN | apply below_drew1 | refine below_set ?_ GE262.out) | exact HB.out)))); have n1_ := zA (blk_below (g := gb262) (o := .cells #[.int .i64 a0_0, .slice A0_1 l0_1.length c0_1, .slice A0_2 l0_2.length c0_2, .slice A0_3 l0_3.length c0_3] 59 (0, 0)) (by (with_reducible repeat (first | refine blk_drewN ?_ _ | refine blk_drew ?_ | refine blk_alloc ?_ _)); exact BK262.out) hb); have n2_ := zA (below_step (by repeat (first | (with_reducible first | exact HB.out | apply below_alloc | apply pw_below_drewN | apply below_drew1 | refine below_set ?_ GE262.out) | exact HB.out)) hb); clear BK262; clear HB; have HO265 := n0_; have BK262 := n1_; have HB := n2_; clear n0_ n1_ n2_; clear hb ho8; have hcz9_0 : w7.cell? ⟨gb262, 0, none⟩ = some (.int .i64 a0_0) := (blk_cell BK262.out 0).trans rfl; have hcz9_1 : w7.cell? ⟨gb262, 1, none⟩ = some (.slice A0_1 l0_1.length c0_1) := (blk_cell BK262.out 1).trans rfl; have hcz9_2 : w7.cell? ⟨gb262, 2, none⟩ = some (.slice A0_2 l0_2.length c0_2) := (blk_cell BK262.out 2).trans rfl; have hcz9_3 : w7.cell? ⟨gb262, 3, none⟩ = some (.slice A0_3 l0_3.length c0_3) := (blk_cell BK262.out 3).trans rfl; have hfz9_0 := blk_frozen BK262.out 0; have hfz9_1 := blk_frozen BK262.out 1; have hfz9_2 := blk_frozen BK262.out 2; have hfz9_3 := blk_frozen BK262.out 3) | ((with_reducible refine gate_callee (f := 81) rfl ?_); refine goesL_ (some 13) rfl rfl Tryz.func81 zq5 rfl #[.int .i64 a0_0] rfl zq6 ?_; (with_reducible refine (spec_l4varint.calls k a0_0 t266 _ A2.out).mono ?_); rintro e w10 ⟨v267, rfl, ho0, hb⟩; refine ⟨_, rfl, ?_⟩; have n0_ := zA (Kd.R_elder' (by (with_reducible repeat (first | apply Kd.R_alloc | apply Kd.R_drewN | apply Kd.R_drew)); exact HO265.out) (Kd.R_base ho0) hb); have n1_ := zA (Kd.R_lower (Kd.R_new' ho0 (Kd.R_lt (by (with_reducible repeat (first | apply Kd.R_alloc | apply Kd.R_drewN | apply Kd.R_drew)); exact HO265.out))) (below_size (by repeat (first | (with_reducible first | exact HB.out | apply below_alloc | apply pw_below_drewN | apply below_drew1 | refine below_set ?_ GE262.out) | exact HB.out)))); have n2_ := zA (blk_below (g := gb262) (o := .cells #[.int .i64 a0_0, .slice A0_1 l0_1.length c0_1, .slice A0_2 l0_2.length c0_2, .slice A0_3 l0_3.length c0_3] 59 (0, 0)) (by (with_reducible repeat (first | refine blk_drewN ?_ _ | refine blk_drew ?_ | refine blk_alloc ?_ _)); exact BK262.out) hb); have n3_ := zA (below_step (by repeat (first | (with_reducible first | exact HB.out | apply below_alloc | apply pw_below_drewN | apply below_drew1 | refine below_set ?_ GE262.out) | exact HB.out)) hb); clear HO265; clear BK262; clear HB; have HO265 := n0_; have HO268 := n1_; have BK262 := n2_; have HB := n3_; clear n0_ n1_ n2_ n3_; (try clear hb); (try clear hb2); (try clear hk); (try clear hi); (try clear ho0); obtain ⟨Ao12, co12, eo12⟩ := Kd.R_slice HO268.out; subst eo12) | ((with_reducible refine gate_builtin (b := .append) (xs := #[.tmp 10, .tmp 13]) rfl ?_); at_builtin; refine Kd.R_append_rows (Kd.int .u8) (w0 := w) w.heap.size rfl (.tmp 10) (.tmp 13) 25 5 (.int .u8 0) 1 rfl Tryz.underlying25 info5 rfl zq15 zq1 v264 y263 t266 _ _ _ (fun k_ => some k_ ≠ (.slice Ao12 t266.length co12 : Value).ownBlock) (fun _ => False) rfl rfl ?aO ?aR (fun _ _ h => h) (fun _ h => h.elim) ?aF ?aB ?aS ?aL ?_; (case aR => repeat (first | exact (Kd.R_reads' HO268.out).2.2 | (with_reducible refine Kd.C_alloc ?_ _) | (with_reducible refine Kd.C_drewN ?_ _) | (with_reducible refine Kd.C_drew ?_))); (case aB => exact (by repeat (first | (with_reducible first | exact HB.out | apply below_alloc | apply pw_below_drewN | apply below_drew1 | refine below_set ?_ GE262.out) | exact HB.out))); (case aF => exact (fun k_ hk => Kd.fresh' (Kd.R_lt zq22) k_ hk)); (case aO => exact (by (with_reducible repeat (first | apply Kd.R_alloc | apply Kd.R_drewN | apply Kd.R_drew)); exact Kd.R_mono HO265.out (fun _ hk => hk.2))); (case aS => exact (below_size (by repeat (first | (with_reducible first | exact HB.out | apply below_alloc | apply pw_below_drewN | apply below_drew1 | refine below_set ?_ GE262.out) | exact HB.out)))); (case aL => have := LMc3.out; omega); intro v270 w11 ho hb hg hat; rw [← Ny269.out] at ho; have n0_ := zA (blk_grown (g := gb262) (o := .cells #[.int .i64 a0_0, .slice A0_1 l0_1.length c0_1, .slice A0_2 l0_2.length c0_2, .slice A0_3 l0_3.length c0_3] 59 (0, 0)) (by (with_reducible repeat (first | refine blk_drewN ?_ _ | refine blk_drew ?_ | refine blk_alloc ?_ _)); exact BK262.out) hg (Kd.R_ne HO265.out BK262.out zq15)); have n1_ := zA (Kd.R_after (ok := (fun _ => True)) zq22 hg hat); have n2_ := zA (hb); have n3_ := zA (ho); clear BK262; clear HO268; clear HB; clear HO265; have BK262 := n0_; have HO268 := n1_; have HB := n2_; have HO271 := n3_; clear n0_ n1_ n2_ n3_; clear ho hb hg hat; have hcz13_0 : w11.cell? ⟨gb262, 0, none⟩ = some (.int .i64 a0_0) := (blk_cell BK262.out 0).trans rfl; have hcz13_1 : w11.cell? ⟨gb262, 1, none⟩ = some (.slice A0_1 l0_1.length c0_1) := (blk_cell BK262.out 1).trans rfl; have hcz13_2 : w11.cell? ⟨gb262, 2, none⟩ = some (.slice A0_2 l0_2.length c0_2) := (blk_cell BK262.out 2).trans rfl; have hcz13_3 : w11.cell? ⟨gb262, 3, none⟩ = some (.slice A0_3 l0_3.length c0_3) := (blk_cell BK262.out 3).trans rfl; have hfz13_0 := blk_frozen BK262.out 0; have hfz13_1 := blk_frozen BK262.out 1; have hfz13_2 := blk_frozen BK262.out 2; have hfz13_3 := blk_frozen BK262.out 3) | ((with_reducible refine gate_callee (f := 81) rfl ?_); refine goesL_ (some 19) rfl rfl Tryz.func81 zq5 rfl #[.int .i64 (l0_1.length : Int)] rfl zq6 ?_; (with_reducible refine (spec_l4varint.calls k (l0_1.length : Int) t272 _ A4.out).mono ?_); rintro e w14 ⟨v273, rfl, ho0, hb⟩; refine ⟨_, rfl, ?_⟩; have n0_ := zA (Kd.R_elder' zq22 (Kd.R_base ho0) hb); have n1_ := zA (Kd.R_elder' zq36 (Kd.R_base ho0) hb); have n2_ := zA (Kd.R_lower (Kd.R_new' (Kd.R_new' ho0 (Kd.R_lt zq22)) (Kd.R_lt zq36)) (below_size (by repeat (first | (with_reducible first | exact HB.out | apply below_alloc | apply pw_below_drewN | apply below_drew1 | refine below_set ?_ GE262.out) | exact HB.out)))); have n3_ := zA (blk_below (g := gb262) (o := .cells #[.int .i64 a0_0, .slice A0_1 l0_1.length c0_1, .slice A0_2 l0_2.length c0_2, .slice A0_3 l0_3.length c0_3] 59 (0, 0)) (by (with_reducible repeat (first | refine blk_drewN ?_ _ | refine blk_drew ?_ | refine blk_alloc ?_ _)); exact BK262.out) hb); have n4_ := zA (below_step (by repeat (first | (with_reducible first | exact HB.out | apply below_alloc | apply pw_below_drewN | apply below_drew1 | refine below_set ?_ GE262.out) | exact HB.out)) hb); clear HO268; clear HO271; clear BK262; clear HB; have HO268 := n0_; have HO271 := n1_; have HO274 := n2_; have BK262 := n3_; have HB := n4_; clear n0_ n1_ n2_ n3_ n4_; (try clear hb); (try clear hb2); (try clear hk); (try clear hi); (try clear ho0); obtain ⟨Ao16, co16, eo16⟩ := Kd.R_slice HO274.out; subst eo16) | ((with_reducible refine gate_builtin (b := .append) (xs := #[.tmp 15, .tmp 19]) rfl ?_); at_builtin; refine Kd.R_append_rows (Kd.int .u8) (w0 := w) w.heap.size rfl (.tmp 15) (.tmp 19) 25 5 (.int .u8 0) 1 rfl Tryz.underlying25 info5 rfl zq15 zq1 v270 y269 t272 _ _ _ (fun k_ => some k_ ≠ (.slice Ao12 t266.length co12 : Value).ownBlock ∧ some k_ ≠ (.slice Ao16 t272.length co16 : Value).ownBlock) (fun _ => False) rfl rfl ?aO ?aR (fun _ _ h => h) (fun _ h => h.elim) ?aF ?aB ?aS ?aL ?_; (case aR => repeat (first | exact (Kd.R_reads' HO274.out).2.2 | (with_reducible refine Kd.C_alloc ?_ _) | (with_reducible refine Kd.C_drewN ?_ _) | (with_reducible refine Kd.C_drew ?_))); (case aB => exact (by repeat (first | (with_reducible first | exact HB.out | apply below_alloc | apply pw_below_drewN | apply below_drew1 | refine below_set ?_ GE262.out) | exact HB.out))); (case aF => exact (fun k_ hk => ⟨Kd.fresh' (Kd.R_lt zq22) k_ hk, Kd.fresh' (Kd.R_lt (by (with_reducible repeat (first | apply Kd.R_alloc | apply Kd.R_drewN | apply Kd.R_drew)); exact HO274.out)) k_ hk⟩)); (case aO => exact zq36); (case aS => exact (below_size (by repeat (first | (with_reducible first | exact HB.out | apply below_alloc | apply pw_below_drewN | apply below_drew1 | refine below_set ?_ GE262.out) | exact HB.out)))); (case aL => have := LMc5.out; omega); intro v276 w15 ho hb hg hat; rw [← Ny275.out] at ho; have n0_ := zA (blk_grown (g := gb262) (o := .cells #[.int .i64 a0_0, .slice A0_1 l0_1.length c0_1, .slice A0_2 l0_2.length c0_2, .slice A0_3 l0_3.length c0_3] 59 (0, 0)) (by (with_reducible repeat (first | refine blk_drewN ?_ _ | refine blk_drew ?_ | refine blk_alloc ?_ _)); exact BK262.out) hg (Kd.R_ne HO271.out BK262.out zq15)); have n1_ := zA (Kd.R_after (ok := (fun k_ => some k_ ≠ (.slice Ao16 t272.length co16 : Value).ownBlock)) (by (with_reducible repeat (first | apply Kd.R_alloc | apply Kd.R_drewN | apply Kd.R_drew)); exact Kd.R_mono HO268.out (fun _ hk => ⟨hk.2, hk.1.2⟩)) hg hat); have n2_ := zA (Kd.R_after (ok := (fun k_ => some k_ ≠ (.slice Ao12 t266.length co12 : Value).ownBlock)) (by (with_reducible repeat (first | apply Kd.R_alloc | apply Kd.R_drewN | apply Kd.R_drew)); exact Kd.R_mono HO274.out (fun _ hk => ⟨hk.1.2, hk.2⟩)) hg hat); have n3_ := zA (hb); have n4_ := zA (ho); clear BK262; clear HO268; clear HO274; clear HB; clear HO271; have BK262 := n0_; have HO268 := n1_; have HO274 := n2_; have HB := n3_; have HO277 := n4_; clear n0_ n1_ n2_ n3_ n4_; clear ho hb hg hat))
   go_loopg [3, 4] k (fun kq v3 v4 w' => ∃ (x3_1 : List Int) (x4_1 : Int), v4 = .int .i64 x4_1 ∧ Aside0 (spec_l4body.l0 kq x3_1 x4_1 a0_0 l0_1 l0_2 l0_3 = some r) ∧ Aside0 (kq ≤ k) ∧ Aside0 (Kd.R (Kd.int .u8) 5 w' w.heap.size (fun _ => True) v3 x3_1) ∧ Aside0 (w'.heap[gb262]? = some (.cells #[.int .i64 a0_0, (.slice A0_1 l0_1.length c0_1), (.slice A0_2 l0_2.length c0_2), (.slice A0_3 l0_3.length c0_3)] 59 (0, 0))) ∧ Aside0 (Below w.heap.size w w'))
   case atStart => exact ⟨(y275), (0), zq4, H', ⟨Nat.le_refl _⟩, ⟨by (with_reducible repeat (first | apply Kd.R_alloc | apply Kd.R_drewN | apply Kd.R_drew)); exact Kd.R_mono HO277.out (fun _ hk => trivial)⟩, ⟨by (with_reducible repeat (first | refine blk_drewN ?_ _ | refine blk_drew ?_ | refine blk_alloc ?_ _)); exact BK262.out⟩, ⟨by repeat (first | (with_reducible first | exact HB.out | apply below_alloc | apply pw_below_drewN | apply below_drew1 | refine below_set ?_ GE262.out) | exact HB.out)⟩⟩
   case round =>
    clear H'
    try clear p2
    try clear c3
    try clear c5
    try clear c8
    try clear hcz13_0
    try clear hcz13_1
    try clear hcz13_2
    try clear hcz13_3
    try clear hcz9_0
    try clear hcz9_1
    try clear hcz9_2
    try clear hcz9_3
    try clear hfz13_0
    try clear hfz13_1
    try clear hfz13_2
    try clear hfz13_3
    try clear hfz9_0
    try clear hfz9_1
    try clear hfz9_2
    try clear hfz9_3
    obtain ⟨x3_1, x4_1, rfl, HA, HK1, HO_3, BK262, HB⟩ := hrel
    cases gk with
    | zero => exact absurd HA.out (by simp [spec_l4body.l0])
    | succ k1 =>
     have H := HA.out
     clear HA
     simp only [spec_l4body.l0] at H
     by_cases c17 : x4_1 < (l0_1.length : Int)
     ·rw [if_pos c17] at H
      have c17b0 : decide (x4_1 < (l0_1.length : Int)) = true := decide_eq_true c17
      clear c17
      by_cases c18 : 0 ≤ x4_1
      ·rw [if_pos c18] at H
       have c18b0 : decide (0 ≤ x4_1) = true := decide_eq_true c18
       clear c18
       replace H := Option.bind_eq_some_iff.mp H
       obtain ⟨t279, A190, H⟩ := H
       replace H : (if x3_1.length + t279.length < 140737488355328 then ((some (x3_1 ++ t279 : List Int)).bind fun y282 => (if y282.length + (rd_L1 l0_1 x4_1).length < 140737488355328 then (spec_l4body.l0 k1 (y282 ++ (rd_L1 l0_1 x4_1)) (wrap64 (x4_1 + 1)) a0_0 l0_1 l0_2 l0_3) else (none))) else (none)) = some r := H
       have A19 := zA A190
       clear A190
       by_cases c20 : x3_1.length + t279.length < 140737488355328
       ·rw [if_pos c20] at H
        have LMc20 := zA c20
        clear c20
        obtain ⟨y282, hy282⟩ : ∃ y_ : List Int, y_ = (x3_1 ++ t279) := ⟨_, rfl⟩
        replace H : (if y282.length + (rd_L1 l0_1 x4_1).length < 140737488355328 then (spec_l4body.l0 k1 (y282 ++ (rd_L1 l0_1 x4_1)) (wrap64 (x4_1 + 1)) a0_0 l0_1 l0_2 l0_3) else (none)) = some r := by first | (rw [hy282]; with_reducible exact H) | (have H2_ := (Option.bind_some _ _).symm.trans H; rw [hy282]; with_reducible exact H2_) | (have H2_ := (Option.bind_some _ _).symm.trans H; with_reducible exact H2_) | with_reducible exact H | (rw [hy282]; exact H) | exact H
        have Ny282 := zA hy282
        clear hy282
        by_cases c21 : y282.length + (rd_L1 l0_1 x4_1).length < 140737488355328
        ·rw [if_pos c21] at H
         have LMc21 := zA c21
         clear c21
         obtain ⟨y286, hy286⟩ : ∃ y_ : List Int, y_ = (y282 ++ (rd_L1 l0_1 x4_1)) := ⟨_, rfl⟩
         replace H : (spec_l4body.l0 k1 y286 (wrap64 (x4_1 + 1)) a0_0 l0_1 l0_2 l0_3) = some r := by first | (rw [hy286]; with_reducible exact H) | (have H2_ := (Option.bind_some _ _).symm.trans H; rw [hy286]; with_reducible exact H2_) | (have H2_ := (Option.bind_some _ _).symm.trans H; with_reducible exact H2_) | with_reducible exact H | (rw [hy286]; exact H) | exact H
         have Ny286 := zA hy286
         clear hy286
         have H' := zA H
         clear H
         have hcz22_0 : wr.cell? ⟨gb262, 0, none⟩ = some (.int .i64 a0_0) := (blk_cell BK262.out 0).trans rfl
         have hcz22_1 : wr.cell? ⟨gb262, 1, none⟩ = some (.slice A0_1 l0_1.length c0_1) := (blk_cell BK262.out 1).trans rfl
         have hcz22_2 : wr.cell? ⟨gb262, 2, none⟩ = some (.slice A0_2 l0_2.length c0_2) := (blk_cell BK262.out 2).trans rfl
         have hcz22_3 : wr.cell? ⟨gb262, 3, none⟩ = some (.slice A0_3 l0_3.length c0_3) := (blk_cell BK262.out 3).trans rfl
         have hfz22_0 := blk_frozen BK262.out 0
         have hfz22_1 := blk_frozen BK262.out 1
         have hfz22_2 := blk_frozen BK262.out 2
         have hfz22_3 := blk_frozen BK262.out 3
         have p278 : 0 ≤ (x4_1 : Int) := of_decide_eq_true zq2
         have q278 : x4_1 < (l0_1.length : Int) := of_decide_eq_true zq2
         obtain ⟨ad278, A278_0, c278_0, e278, hx278_0, hl278_0, hi278_0⟩ := at_L1 HR0_1.out x4_1 p278 q278
         cases e278
         replace hx278_0 := (HB.out.cell (World.block_lt_of_cell? w _ hx278_0)).trans hx278_0
         have HR278_0 := zA hi278_0
         have HC278_0 := zA hl278_0
         clear hi278_0 hl278_0
         replace p278 := eq_true p278
         replace q278 := eq_true q278
         go_wp2_with (first | ((with_reducible refine gate_callee (f := 81) rfl ?_); refine goesL_ (some 35) rfl rfl Tryz.func81 zq5 rfl #[.int .i64 ((rd_L1 l0_1 x4_1).length : Int)] rfl zq6 ?_; (with_reducible refine (spec_l4varint.calls k1 ((rd_L1 l0_1 x4_1).length : Int) t279 _ A19.out).mono ?_); rintro e w23 ⟨v280, rfl, ho0, hb⟩; refine ⟨_, rfl, ?_⟩; have n0_ := zA (Kd.R_elder' zq10 (Kd.R_base ho0) hb); have n1_ := zA (Kd.R_lower (Kd.R_new' ho0 (Kd.R_lt zq10)) (below_size (by repeat (first | (with_reducible first | exact HB.out | apply below_alloc | apply pw_below_drewN | apply below_drew1 | refine below_set ?_ GE262.out) | exact HB.out)))); have n2_ := zA (blk_below (g := gb262) (o := .cells #[.int .i64 a0_0, .slice (some ad278) l0_1.length c0_1, .slice A0_2 l0_2.length c0_2, .slice A0_3 l0_3.length c0_3] 59 (0, 0)) (by (with_reducible repeat (first | refine blk_drewN ?_ _ | refine blk_drew ?_ | refine blk_alloc ?_ _)); exact BK262.out) hb); have n3_ := zA (below_step (by repeat (first | (with_reducible first | exact HB.out | apply below_alloc | apply pw_below_drewN | apply below_drew1 | refine below_set ?_ GE262.out) | exact HB.out)) hb); clear HO_3; clear BK262; clear HB; have HO_3 := n0_; have HO281 := n1_; have BK262 := n2_; have HB := n3_; clear n0_ n1_ n2_ n3_; (try clear hb); (try clear hb2); (try clear hk); (try clear hi); (try clear ho0); obtain ⟨Ao25, co25, eo25⟩ := Kd.R_slice HO281.out; subst eo25) | ((with_reducible refine gate_builtin (b := .append) (xs := #[.tmp 28, .tmp 35]) rfl ?_); at_builtin; refine Kd.R_append_rows (Kd.int .u8) (w0 := w) w.heap.size rfl (.tmp 28) (.tmp 35) 25 5 (.int .u8 0) 1 rfl Tryz.underlying25 info5 rfl zq15 zq1 u3 x3_1 t279 _ _ _ (fun k_ => some k_ ≠ (.slice Ao25 t279.length co25 : Value).ownBlock) (fun _ => False) rfl rfl ?aO ?aR (fun _ _ h => h) (fun _ h => h.elim) ?aF ?aB ?aS ?aL ?_; (case aR => repeat (first | exact (Kd.R_reads' HO281.out).2.2 | (with_reducible refine Kd.C_alloc ?_ _) | (with_reducible refine Kd.C_drewN ?_ _) | (with_reducible refine Kd.C_drew ?_))); (case aB => exact (by repeat (first | (with_reducible first | exact HB.out | apply below_alloc | apply pw_below_drewN | apply below_drew1 | refine below_set ?_ GE262.out) | exact HB.out))); (case aF => exact (fun k_ hk => Kd.fresh' (Kd.R_lt zq29) k_ hk)); (case aO => exact zq18); (case aS => exact (below_size (by repeat (first | (with_reducible first | exact HB.out | apply below_alloc | apply pw_below_drewN | apply below_drew1 | refine below_set ?_ GE262.out) | exact HB.out)))); (case aL => have := LMc20.out; omega); intro v283 w24 ho hb hg hat; rw [← Ny282.out] at ho; have n0_ := zA (blk_grown (g := gb262) (o := .cells #[.int .i64 a0_0, .slice (some ad278) l0_1.length c0_1, .slice A0_2 l0_2.length c0_2, .slice A0_3 l0_3.length c0_3] 59 (0, 0)) (by (with_reducible repeat (first | refine blk_drewN ?_ _ | refine blk_drew ?_ | refine blk_alloc ?_ _)); exact BK262.out) hg (Kd.R_ne HO_3.out BK262.out zq15)); have n1_ := zA (Kd.R_after (ok := (fun _ => True)) zq29 hg hat); have n2_ := zA (hb); have n3_ := zA (ho); clear BK262; clear HO281; clear HB; clear HO_3; have BK262 := n0_; have HO281 := n1_; have HB := n2_; have HO284 := n3_; clear n0_ n1_ n2_ n3_; clear ho hb hg hat; have hcz26_0 : w24.cell? ⟨gb262, 0, none⟩ = some (.int .i64 a0_0) := (blk_cell BK262.out 0).trans rfl; have hcz26_1 : w24.cell? ⟨gb262, 1, none⟩ = some (.slice (some ad278) l0_1.length c0_1) := (blk_cell BK262.out 1).trans rfl; have hcz26_2 : w24.cell? ⟨gb262, 2, none⟩ = some (.slice A0_2 l0_2.length c0_2) := (blk_cell BK262.out 2).trans rfl; have hcz26_3 : w24.cell? ⟨gb262, 3, none⟩ = some (.slice A0_3 l0_3.length c0_3) := (blk_cell BK262.out 3).trans rfl; have hfz26_0 := blk_frozen BK262.out 0; have hfz26_1 := blk_frozen BK262.out 1; have hfz26_2 := blk_frozen BK262.out 2; have hfz26_3 := blk_frozen BK262.out 3; have p285 : 0 ≤ (x4_1 : Int) := of_decide_eq_true zq2; have q285 : x4_1 < (l0_1.length : Int) := of_decide_eq_true zq2; obtain ⟨ad285, A285_0, c285_0, e285, hx285_0, hl285_0, hi285_0⟩ := at_L1 HR0_1.out x4_1 p285 q285; obtain rfl : ad278 = ad285 := (by injection e285); replace hx285_0 := (HB.out.cell (World.block_lt_of_cell? w _ hx285_0)).trans hx285_0; have HR285_0 := zA hi285_0; have HC285_0 := zA hl285_0; clear hi285_0 hl285_0; replace p285 := eq_true p285; replace q285 := eq_true q285) | ((with_reducible refine gate_builtin (b := .append) (xs := #[.tmp 37, .tmp 42]) rfl ?_); at_builtin; refine Kd.R_append_rows (Kd.int .u8) (w0 := w) w.heap.size rfl (.tmp 37) (.tmp 42) 25 5 (.int .u8 0) 1 rfl Tryz.underlying25 info5 rfl zq15 zq1 v283 y282 (rd_L1 l0_1 x4_1) _ _ _ (fun k_ => some k_ ≠ (.slice Ao25 t279.length co25 : Value).ownBlock) (fun _ => False) rfl rfl ?aO ?aR (fun _ _ h => h) (fun _ h => h.elim) ?aF ?aB ?aS ?aL ?_; (case aR => repeat (first | exact (Kd.C_below HR285_0.out HB.out) | (with_reducible refine Kd.C_alloc ?_ _) | (with_reducible refine Kd.C_drewN ?_ _) | (with_reducible refine Kd.C_drew ?_))); (case aB => exact (by repeat (first | (with_reducible first | exact HB.out | apply below_alloc | apply pw_below_drewN | apply below_drew1 | refine below_set ?_ GE262.out) | exact HB.out))); (case aF => exact (fun k_ hk => Kd.fresh' (Kd.R_lt zq29) k_ hk)); (case aO => exact (by (with_reducible repeat (first | apply Kd.R_alloc | apply Kd.R_drewN | apply Kd.R_drew)); exact HO284.out)); (case aS => exact (below_size (by repeat (first | (with_reducible first | exact HB.out | apply below_alloc | apply pw_below_drewN | apply below_drew1 | refine below_set ?_ GE262.out) | exact HB.out)))); (case aL => have := LMc21.out; omega); intro v287 w27 ho hb hg hat; rw [← Ny286.out] at ho; have n0_ := zA (blk_grown (g := gb262) (o := .cells #[.int .i64 a0_0, .slice (some ad278) l0_1.length c0_1, .slice A0_2 l0_2.length c0_2, .slice A0_3 l0_3.length c0_3] 59 (0, 0)) (by (with_reducible repeat (first | refine blk_drewN ?_ _ | refine blk_drew ?_ | refine blk_alloc ?_ _)); exact BK262.out) hg (Kd.R_ne HO284.out BK262.out zq15)); have n1_ := zA (Kd.R_after (ok := (fun _ => True)) zq29 hg hat); have n2_ := zA (hb); have n3_ := zA (ho); clear BK262; clear HO281; clear HB; clear HO284; have BK262 := n0_; have HO281 := n1_; have HB := n2_; have HO288 := n3_; clear n0_ n1_ n2_ n3_; clear ho hb hg hat))
         go_roundg k1
         case measure => have := HK1.out; omega
         case rel => exact ⟨(y286), (wrap64 (x4_1 + 1)), zq4, H', ⟨zq33⟩, ⟨by (with_reducible repeat (first | apply Kd.R_alloc | apply Kd.R_drewN | apply Kd.R_drew)); exact Kd.R_mono HO288.out (fun _ hk => trivial)⟩, ⟨by (with_reducible repeat (first | refine blk_drewN ?_ _ | refine blk_drew ?_ | refine blk_alloc ?_ _)); exact BK262.out⟩, ⟨by repeat (first | (with_reducible first | exact HB.out | apply below_alloc | apply pw_below_drewN | apply below_drew1 | refine below_set ?_ GE262.out) | exact HB.out)⟩⟩
        ·rw [if_neg c21] at H
         exact absurd H zq12
       ·rw [if_neg c20] at H
        exact absurd H zq12
      ·rw [if_neg c18] at H
       exact absurd H zq12
     ·rw [if_neg c17] at H
      have c17b0 : decide (x4_1 < (l0_1.length : Int)) = false := decide_eq_false c17
      clear c17
      replace H := Option.bind_eq_some_iff.mp H
      obtain ⟨t289, A280, H⟩ := H
      replace H : (if x3_1.length + t289.length < 140737488355328 then (spec_l4body.l1 k1 (x3_1 ++ t289) 0 a0_0 l0_1 l0_2 l0_3) else (none)) = some r := H
      have A28 := zA A280
      clear A280
      by_cases c29 : x3_1.length + t289.length < 140737488355328
      ·rw [if_pos c29] at H
       have LMc29 := zA c29
       clear c29
       obtain ⟨y292, hy292⟩ : ∃ y_ : List Int, y_ = (x3_1 ++ t289) := ⟨_, rfl⟩
       replace H : (spec_l4body.l1 k1 y292 0 a0_0 l0_1 l0_2 l0_3) = some r := by first | (rw [hy292]; with_reducible exact H) | (have H2_ := (Option.bind_some _ _).symm.trans H; rw [hy292]; with_reducible exact H2_) | (have H2_ := (Option.bind_some _ _).symm.trans H; with_reducible exact H2_) | with_reducible exact H | (rw [hy292]; exact H) | exact H
       have Ny292 := zA hy292
       clear hy292
       have H' := zA H
       clear H
       have hcz30_0 : wr.cell? ⟨gb262, 0, none⟩ = some (.int .i64 a0_0) := (blk_cell BK262.out 0).trans rfl
       have hcz30_1 : wr.cell? ⟨gb262, 1, none⟩ = some (.slice A0_1 l0_1.length c0_1) := (blk_cell BK262.out 1).trans rfl
       have hcz30_2 : wr.cell? ⟨gb262, 2, none⟩ = some (.slice A0_2 l0_2.length c0_2) := (blk_cell BK262.out 2).trans rfl
       have hcz30_3 : wr.cell? ⟨gb262, 3, none⟩ = some (.slice A0_3 l0_3.length c0_3) := (blk_cell BK262.out 3).trans rfl
       have hfz30_0 := blk_frozen BK262.out 0
       have hfz30_1 := blk_frozen BK262.out 1
       have hfz30_2 := blk_frozen BK262.out 2
       have hfz30_3 := blk_frozen BK262.out 3
       go_wp2_with (first | ((with_reducible refine gate_callee (f := 81) rfl ?_); refine goesL_ (some 48) rfl rfl Tryz.func81 zq5 rfl #[.int .i64 (l0_2.length : Int)] rfl zq6 ?_; (with_reducible refine (spec_l4varint.calls k1 (l0_2.length : Int) t289 _ A28.out).mono ?_); rintro e w31 ⟨v290, rfl, ho0, hb⟩; refine ⟨_, rfl, ?_⟩; have n0_ := zA (Kd.R_elder' zq10 (Kd.R_base ho0) hb); have n1_ := zA (Kd.R_lower (Kd.R_new' ho0 (Kd.R_lt zq10)) (below_size (by repeat (first | (with_reducible first | exact HB.out | apply below_alloc | apply pw_below_drewN | apply below_drew1 | refine below_set ?_ GE262.out) | exact HB.out)))); have n2_ := zA (blk_below (g := gb262) (o := .cells #[.int .i64 a0_0, .slice A0_1 l0_1.length c0_1, .slice A0_2 l0_2.length c0_2, .slice A0_3 l0_3.length c0_3] 59 (0, 0)) (by (with_reducible repeat (first | refine blk_drewN ?_ _ | refine blk_drew ?_ | refine blk_alloc ?_ _)); exact BK262.out) hb); have n3_ := zA (below_step (by repeat (first | (with_reducible first | exact HB.out | apply below_alloc | apply pw_below_drewN | apply below_drew1 | refine below_set ?_ GE262.out) | exact HB.out)) hb); clear HO_3; clear BK262; clear HB; have HO_3 := n0_; have HO291 := n1_; have BK262 := n2_; have HB := n3_; clear n0_ n1_ n2_ n3_; (try clear hb); (try clear hb2); (try clear hk); (try clear hi); (try clear ho0); obtain ⟨Ao33, co33, eo33⟩ := Kd.R_slice HO291.out; subst eo33) | ((with_reducible refine gate_builtin (b := .append) (xs := #[.tmp 44, .tmp 48]) rfl ?_); at_builtin; refine Kd.R_append_rows (Kd.int .u8) (w0 := w) w.heap.size rfl (.tmp 44) (.tmp 48) 25 5 (.int .u8 0) 1 rfl Tryz.underlying25 info5 rfl zq15 zq1 u3 x3_1 t289 _ _ _ (fun k_ => some k_ ≠ (.slice Ao33 t289.length co33 : Value).ownBlock) (fun _ => False) rfl rfl ?aO ?aR (fun _ _ h => h) (fun _ h => h.elim) ?aF ?aB ?aS ?aL ?_; (case aR => repeat (first | exact (Kd.R_reads' HO291.out).2.2 | (with_reducible refine Kd.C_alloc ?_ _) | (with_reducible refine Kd.C_drewN ?_ _) | (with_reducible refine Kd.C_drew ?_))); (case aB => exact (by repeat (first | (with_reducible first | exact HB.out | apply below_alloc | apply pw_below_drewN | apply below_drew1 | refine below_set ?_ GE262.out) | exact HB.out))); (case aF => exact (fun k_ hk => Kd.fresh' (Kd.R_lt (by (with_reducible repeat (first | apply Kd.R_alloc | apply Kd.R_drewN | apply Kd.R_drew)); exact HO291.out)) k_ hk)); (case aO => exact zq18); (case aS => exact (below_size (by repeat (first | (with_reducible first | exact HB.out | apply below_alloc | apply pw_below_drewN | apply below_drew1 | refine below_set ?_ GE262.out) | exact HB.out)))); (case aL => have := LMc29.out; omega); intro v293 w32 ho hb hg hat; rw [← Ny292.out] at ho; have n0_ := zA (blk_grown (g := gb262) (o := .cells #[.int .i64 a0_0, .slice A0_1 l0_1.length c0_1, .slice A0_2 l0_2.length c0_2, .slice A0_3 l0_3.length c0_3] 59 (0, 0)) (by (with_reducible repeat (first | refine blk_drewN ?_ _ | refine blk_drew ?_ | refine blk_alloc ?_ _)); exact BK262.out) hg (Kd.R_ne HO_3.out BK262.out zq15)); have n1_ := zA (Kd.R_after (ok := (fun _ => True)) (by (with_reducible repeat (first | apply Kd.R_alloc | apply Kd.R_drewN | apply Kd.R_drew)); exact HO291.out) hg hat); have n2_ := zA (hb); have n3_ := zA (ho); clear BK262; clear HO291; clear HB; clear HO_3; have BK262 := n0_; have HO291 := n1_; have HB := n2_; have HO294 := n3_; clear n0_ n1_ n2_ n3_; clear ho hb hg hat))
       go_loopg [3, 5] k1 (fun kq v3 v5 w' => ∃ (x3_2 : List Int) (x5_2 : Int), v5 = .int .i64 x5_2 ∧ Aside0 (spec_l4body.l1 kq x3_2 x5_2 a0_0 l0_1 l0_2 l0_3 = some r) ∧ Aside0 (kq ≤ k1) ∧ Aside0 (Kd.R (Kd.int .u8) 5 w' w.heap.size (fun _ => True) v3 x3_2) ∧ Aside0 (w'.heap[gb262]? = some (.cells #[.int .i64 a0_0, (.slice A0_1 l0_1.length c0_1), (.slice A0_2 l0_2.length c0_2), (.slice A0_3 l0_3.length c0_3)] 59 (0, 0))) ∧ Aside0 (Below w.heap.size w w'))
       case atStart => exact ⟨(y292), (0), zq4, H', ⟨Nat.le_refl _⟩, ⟨by (with_reducible repeat (first | apply Kd.R_alloc | apply Kd.R_drewN | apply Kd.R_drew)); exact Kd.R_mono HO294.out (fun _ hk => trivial)⟩, ⟨by (with_reducible repeat (first | refine blk_drewN ?_ _ | refine blk_drew ?_ | refine blk_alloc ?_ _)); exact BK262.out⟩, ⟨by repeat (first | (with_reducible first | exact HB.out | apply below_alloc | apply pw_below_drewN | apply below_drew1 | refine below_set ?_ GE262.out) | exact HB.out)⟩⟩
       case round =>
        clear H'
        try clear c1
        try clear c2
        try clear p2
        try clear q2
        try clear hx2
        try clear c3
        try clear c5
        try clear p6
        try clear c8
        try clear c17
        try clear c17b0
        try clear c18
        try clear c18b0
        try clear c20
        try clear c21
        try clear c27
        try clear p27
        try clear q27
        try clear hx27
        try clear c28
        try clear p28
        try clear q28
        try clear hx28
        try clear c29
        try clear hcz13_0
        try clear hcz13_1
        try clear hcz13_2
        try clear hcz13_3
        try clear hcz22_0
        try clear hcz22_1
        try clear hcz22_2
        try clear hcz22_3
        try clear hcz26_0
        try clear hcz26_1
        try clear hcz26_2
        try clear hcz26_3
        try clear hcz30_0
        try clear hcz30_1
        try clear hcz30_2
        try clear hcz30_3
        try clear hcz9_0
        try clear hcz9_1
        try clear hcz9_2
        try clear hcz9_3
        try clear hfz13_0
        try clear hfz13_1
        try clear hfz13_2
        try clear hfz13_3
        try clear hfz22_0
        try clear hfz22_1
        try clear hfz22_2
        try clear hfz22_3
        try clear hfz26_0
        try clear hfz26_1
        try clear hfz26_2
        try clear hfz26_3
        try clear hfz30_0
        try clear hfz30_1
        try clear hfz30_2
        try clear hfz30_3
        try clear hfz9_0
        try clear hfz9_1
        try clear hfz9_2
        try clear hfz9_3
        try clear hx278_0
        try clear hx285_0
        try clear p2
        try clear p278
        try clear p285
        try clear q278
        try clear q285
        obtain ⟨x3_2, x5_2, rfl, HA, HK2, HO_3, BK262, HB⟩ := hrel
        cases gk with
        | zero => exact absurd HA.out (by simp [spec_l4body.l1])
        | succ k2 =>
         have H := HA.out
         clear HA
         simp only [spec_l4body.l1] at H
         by_cases c34 : x5_2 < (l0_2.length : Int)
         ·rw [if_pos c34] at H
          have c34b0 : decide (x5_2 < (l0_2.length : Int)) = true := decide_eq_true c34
          clear c34
          by_cases c35 : 0 ≤ x5_2
          ·rw [if_pos c35] at H
           have c35b0 : decide (0 ≤ x5_2) = true := decide_eq_true c35
           clear c35
           have HC36 := zA H
           clear H
           have hcz37_0 : wr.cell? ⟨gb262, 0, none⟩ = some (.int .i64 a0_0) := (blk_cell BK262.out 0).trans rfl
           have hcz37_1 : wr.cell? ⟨gb262, 1, none⟩ = some (.slice A0_1 l0_1.length c0_1) := (blk_cell BK262.out 1).trans rfl
           have hcz37_2 : wr.cell? ⟨gb262, 2, none⟩ = some (.slice A0_2 l0_2.length c0_2) := (blk_cell BK262.out 2).trans rfl
           have hcz37_3 : wr.cell? ⟨gb262, 3, none⟩ = some (.slice A0_3 l0_3.length c0_3) := (blk_cell BK262.out 3).trans rfl
           have hfz37_0 := blk_frozen BK262.out 0
           have hfz37_1 := blk_frozen BK262.out 1
           have hfz37_2 := blk_frozen BK262.out 2
           have hfz37_3 := blk_frozen BK262.out 3
           have p295 : 0 ≤ (x5_2 : Int) := of_decide_eq_true zq2
           have q295 : x5_2 < (l0_2.length : Int) := of_decide_eq_true zq2
           obtain ⟨ad295, e295, hx295_0⟩ := Kd.at_int HR0_2.out x5_2 p295 q295
           cases e295
           replace hx295_0 := (HB.out.cell (World.block_lt_of_cell? w _ hx295_0)).trans hx295_0
           replace p295 := eq_true p295
           replace q295 := eq_true q295
           go_upto_if 63 with (fail)
           go_cut [6] (fun v6 wc => ∃ (kq : Nat) (x6_35 : Int), v6 = .int .i64 x6_35 ∧ Aside0 (spec_l4body.j2 kq x3_2 x5_2 x6_35 a0_0 l0_1 l0_2 l0_3 = some r) ∧ Aside0 (kq ≤ k2) ∧ Aside0 (Kd.R (Kd.int .u8) 5 wc w.heap.size (fun _ => True) u3 x3_2) ∧ Aside0 (wc.heap[gb262]? = some (.cells #[.int .i64 a0_0, (.slice A0_1 l0_1.length c0_1), (.slice (some ad295) l0_2.length c0_2), (.slice A0_3 l0_3.length c0_3)] 59 (0, 0))) ∧ Aside0 (Below w.heap.size w wc))
           case first =>
            have H := HC36.out
            clear HC36
            by_cases c38 : x5_2 > 0
            ·rw [if_pos c38] at H
             have c38b0 : decide (0 < x5_2) = true := decide_eq_true c38
             clear c38
             (first | rw [c38b0] | (simp only [i64_w, i32_w]; rw [c38b0]) | skip)
             obtain ⟨ji39, hji39⟩ : ∃ j_ : Int, (wrap64 (x5_2 - 1)) = j_ := ⟨_, rfl⟩
             replace H : (if 0 ≤ (ji39) then (if (ji39) < (l0_2.length : Int) then (spec_l4body.j2 k2 x3_2 x5_2 (wrap64 ((rd l0_2 x5_2) - (rd l0_2 (ji39)))) a0_0 l0_1 l0_2 l0_3) else (none)) else (none)) = some r := by first | (rw [hji39] at H; exact H) | (simp only [hji39] at H ⊢; exact H)
             have hji39w : (IntKind.i64.wrap (x5_2 - 1)) = ji39 := (i64_w _).trans hji39
             by_cases c40 : 0 ≤ (ji39)
             ·rw [if_pos c40] at H
              have c40b0 : decide (0 ≤ (ji39)) = true := decide_eq_true c40
              clear c40
              by_cases c41 : (ji39) < (l0_2.length : Int)
              ·rw [if_pos c41] at H
               have c41b0 : decide ((ji39) < (l0_2.length : Int)) = true := decide_eq_true c41
               clear c41
               have H' := zA H
               clear H
               have hcz42_0 : wr.cell? ⟨gb262, 0, none⟩ = some (.int .i64 a0_0) := (blk_cell BK262.out 0).trans rfl
               have hcz42_1 : wr.cell? ⟨gb262, 1, none⟩ = some (.slice A0_1 l0_1.length c0_1) := (blk_cell BK262.out 1).trans rfl
               have hcz42_2 : wr.cell? ⟨gb262, 2, none⟩ = some (.slice (some ad295) l0_2.length c0_2) := (blk_cell BK262.out 2).trans rfl
               have hcz42_3 : wr.cell? ⟨gb262, 3, none⟩ = some (.slice A0_3 l0_3.length c0_3) := (blk_cell BK262.out 3).trans rfl
               have hfz42_0 := blk_frozen BK262.out 0
               have hfz42_1 := blk_frozen BK262.out 1
               have hfz42_2 := blk_frozen BK262.out 2
               have hfz42_3 := blk_frozen BK262.out 3
               have p296 : 0 ≤ ((ji39) : Int) := of_decide_eq_true zq2
               have q296 : (ji39) < (l0_2.length : Int) := of_decide_eq_true zq2
               obtain ⟨ad296, e296, hx296_0⟩ := Kd.at_int HR0_2.out (ji39) p296 q296
               obtain rfl : ad295 = ad296 := (by injection e296)
               replace hx296_0 := (HB.out.cell (World.block_lt_of_cell? w _ hx296_0)).trans hx296_0
               replace p296 := eq_true p296
               replace q296 := eq_true q296
               go_wp2
               go_meet
               case rel => exact ⟨_, (wrap64 ((rd l0_2 x5_2) - (rd l0_2 (ji39)))), (by first | rfl | (simp; done) | (simp only [← hji39] <;> (first | rfl | simp)) | (simp [*]; done)), H', ⟨by have := HK1.out; have := HK2.out; first | omega | exact Nat.le_refl _⟩, ⟨zq10⟩, ⟨by (with_reducible repeat (first | refine blk_drewN ?_ _ | refine blk_drew ?_ | refine blk_alloc ?_ _)); exact BK262.out⟩, ⟨by repeat (first | (with_reducible first | exact HB.out | apply below_alloc | apply pw_below_drewN | apply below_drew1 | refine below_set ?_ GE262.out) | exact HB.out)⟩⟩
              ·rw [if_neg c41] at H
               exact absurd H zq12
             ·rw [if_neg c40] at H
              exact absurd H zq12
            ·rw [if_neg c38] at H
             have c38b0 : decide (0 < x5_2) = false := decide_eq_false c38
             clear c38
             (first | rw [c38b0] | (simp only [i64_w, i32_w]; rw [c38b0]) | skip)
             have H' := zA H
             clear H
             go_wp2
             go_meet
             case rel => exact ⟨_, (rd l0_2 x5_2), zq4, H', ⟨by have := HK1.out; have := HK2.out; first | omega | exact Nat.le_refl _⟩, ⟨zq10⟩, ⟨by (with_reducible repeat (first | refine blk_drewN ?_ _ | refine blk_drew ?_ | refine blk_alloc ?_ _)); exact BK262.out⟩, ⟨by repeat (first | (with_reducible first | exact HB.out | apply below_alloc | apply pw_below_drewN | apply below_drew1 | refine below_set ?_ GE262.out) | exact HB.out)⟩⟩
           case rest =>
            clear HC36
            try clear c1
            try clear c2
            try clear p2
            try clear q2
            try clear hx2
            try clear c3
            try clear c4
            try clear c5
            try clear p6
            try clear c8
            try clear c17
            try clear c17b0
            try clear c18
            try clear c18b0
            try clear c20
            try clear c21
            try clear c27
            try clear p27
            try clear q27
            try clear hx27
            try clear c28
            try clear p28
            try clear q28
            try clear hx28
            try clear c29
            try clear p29
            try clear q29
            try clear hx29
            try clear c34
            try clear c34b0
            try clear c35
            try clear c35b0
            try clear c38
            try clear c38b0
            try clear c40
            try clear c40b0
            try clear c41
            try clear c41b0
            try clear hcz13_0
            try clear hcz13_1
            try clear hcz13_2
            try clear hcz13_3
            try clear hcz22_0
            try clear hcz22_1
            try clear hcz22_2
            try clear hcz22_3
            try clear hcz26_0
            try clear hcz26_1
            try clear hcz26_2
            try clear hcz26_3
            try clear hcz30_0
            try clear hcz30_1
            try clear hcz30_2
            try clear hcz30_3
            try clear hcz37_0
            try clear hcz37_1
            try clear hcz37_2
            try clear hcz37_3
            try clear hcz42_0
            try clear hcz42_1
            try clear hcz42_2
            try clear hcz42_3
            try clear hcz9_0
            try clear hcz9_1
            try clear hcz9_2
            try clear hcz9_3
            try clear hfz13_0
            try clear hfz13_1
            try clear hfz13_2
            try clear hfz13_3
            try clear hfz22_0
            try clear hfz22_1
            try clear hfz22_2
            try clear hfz22_3
            try clear hfz26_0
            try clear hfz26_1
            try clear hfz26_2
            try clear hfz26_3
            try clear hfz30_0
            try clear hfz30_1
            try clear hfz30_2
            try clear hfz30_3
            try clear hfz37_0
            try clear hfz37_1
            try clear hfz37_2
            try clear hfz37_3
            try clear hfz42_0
            try clear hfz42_1
            try clear hfz42_2
            try clear hfz42_3
            try clear hfz9_0
            try clear hfz9_1
            try clear hfz9_2
            try clear hfz9_3
            try clear hx278_0
            try clear hx285_0
            try clear hx295_0
            try clear hx296_0
            try clear p2
            try clear p27
            try clear p278
            try clear p28
            try clear p285
            try clear p295
            try clear p296
            try clear p6
            try clear q2
            try clear q27
            try clear q278
            try clear q28
            try clear q285
            try clear q295
            try clear q296
            obtain ⟨kq, x6_35, rfl, HA, HJ35, HO_3, BK262, HB⟩ := hcut
            cases kq with
            | zero => exact absurd HA.out (by simp [spec_l4body.j2])
            | succ kj35 =>
             have H := HA.out
             clear HA
             simp only [spec_l4body.j2] at H
             replace H := Option.bind_eq_some_iff.mp H
             obtain ⟨t297, A430, H⟩ := H
             replace H : (if x3_2.length + t297.length < 140737488355328 then ((some (x3_2 ++ t297 : List Int)).bind fun y300 => (if 0 ≤ x5_2 then (if x5_2 < (l0_3.length : Int) then ((spec_l4varint.f kj35 ((rd_L3 l0_3 x5_2).length : Int)).bind fun t304 => (if y300.length + t304.length < 140737488355328 then (spec_l4body.l2 kj35 (y300 ++ t304) x5_2 0 a0_0 l0_1 l0_2 l0_3) else (none))) else (none)) else (none))) else (none)) = some r := H
             have A43 := zA A430
             clear A430
             by_cases c44 : x3_2.length + t297.length < 140737488355328
             ·rw [if_pos c44] at H
              have LMc44 := zA c44
              clear c44
              obtain ⟨y300, hy300⟩ : ∃ y_ : List Int, y_ = (x3_2 ++ t297) := ⟨_, rfl⟩
              replace H : (if 0 ≤ x5_2 then (if x5_2 < (l0_3.length : Int) then ((spec_l4varint.f kj35 ((rd_L3 l0_3 x5_2).length : Int)).bind fun t304 => (if y300.length + t304.length < 140737488355328 then (spec_l4body.l2 kj35 (y300 ++ t304) x5_2 0 a0_0 l0_1 l0_2 l0_3) else (none))) else (none)) else (none)) = some r := by first | (rw [hy300]; with_reducible exact H) | (have H2_ := (Option.bind_some _ _).symm.trans H; rw [hy300]; with_reducible exact H2_) | (have H2_ := (Option.bind_some _ _).symm.trans H; with_reducible exact H2_) | with_reducible exact H | (rw [hy300]; exact H) | exact H
              have Ny300 := zA hy300
              clear hy300
              by_cases c45 : 0 ≤ x5_2
              ·rw [if_pos c45] at H
               have c45b0 : decide (0 ≤ x5_2) = true := decide_eq_true c45
               clear c45
               by_cases c46 : x5_2 < (l0_3.length : Int)
               ·rw [if_pos c46] at H
                have c46b0 : decide (x5_2 < (l0_3.length : Int)) = true := decide_eq_true c46
                clear c46
                replace H := Option.bind_eq_some_iff.mp H
                obtain ⟨t304, A470, H⟩ := H
                replace H : (if y300.length + t304.length < 140737488355328 then (spec_l4body.l2 kj35 (y300 ++ t304) x5_2 0 a0_0 l0_1 l0_2 l0_3) else (none)) = some r := H
                have A47 := zA A470
                clear A470
                by_cases c48 : y300.length + t304.length < 140737488355328
                ·rw [if_pos c48] at H
                 have LMc48 := zA c48
                 clear c48
                 obtain ⟨y307, hy307⟩ : ∃ y_ : List Int, y_ = (y300 ++ t304) := ⟨_, rfl⟩
                 replace H : (spec_l4body.l2 kj35 y307 x5_2 0 a0_0 l0_1 l0_2 l0_3) = some r := by first | (rw [hy307]; with_reducible exact H) | (have H2_ := (Option.bind_some _ _).symm.trans H; rw [hy307]; with_reducible exact H2_) | (have H2_ := (Option.bind_some _ _).symm.trans H; with_reducible exact H2_) | with_reducible exact H | (rw [hy307]; exact H) | exact H
                 have Ny307 := zA hy307
                 clear hy307
                 have H' := zA H
                 clear H
                 go_wp2_with (first | ((with_reducible refine gate_callee (f := 81) rfl ?_); refine goesL_ (some 74) rfl rfl Tryz.func81 zq5 rfl #[.int .i64 x6_35] rfl zq6 ?_; (with_reducible refine (spec_l4varint.calls kj35 x6_35 t297 _ A43.out).mono ?_); rintro e w49 ⟨v298, rfl, ho0, hb⟩; refine ⟨_, rfl, ?_⟩; have n0_ := zA (Kd.R_elder' zq10 (Kd.R_base ho0) hb); have n1_ := zA (Kd.R_lower (Kd.R_new' ho0 (Kd.R_lt zq10)) (below_size (by repeat (first | (with_reducible first | exact HB.out | apply below_alloc | apply pw_below_drewN | apply below_drew1 | refine below_set ?_ GE262.out) | exact HB.out)))); have n2_ := zA (blk_below (g := gb262) (o := .cells #[.int .i64 a0_0, .slice A0_1 l0_1.length c0_1, .slice (some ad295) l0_2.length c0_2, .slice A0_3 l0_3.length c0_3] 59 (0, 0)) (by (with_reducible repeat (first | refine blk_drewN ?_ _ | refine blk_drew ?_ | refine blk_alloc ?_ _)); exact BK262.out) hb); have n3_ := zA (below_step (by repeat (first | (with_reducible first | exact HB.out | apply below_alloc | apply pw_below_drewN | apply below_drew1 | refine below_set ?_ GE262.out) | exact HB.out)) hb); clear HO_3; clear BK262; clear HB; have HO_3 := n0_; have HO299 := n1_; have BK262 := n2_; have HB := n3_; clear n0_ n1_ n2_ n3_; (try clear hb); (try clear hb2); (try clear hk); (try clear hi); (try clear ho0); obtain ⟨Ao51, co51, eo51⟩ := Kd.R_slice HO299.out; subst eo51) | ((with_reducible refine gate_builtin (b := .append) (xs := #[.tmp 72, .tmp 74]) rfl ?_); at_builtin; refine Kd.R_append_rows (Kd.int .u8) (w0 := w) w.heap.size rfl (.tmp 72) (.tmp 74) 25 5 (.int .u8 0) 1 rfl Tryz.underlying25 info5 rfl zq15 zq1 u3 x3_2 t297 _ _ _ (fun k_ => some k_ ≠ (.slice Ao51 t297.length co51 : Value).ownBlock) (fun _ => False) rfl rfl ?aO ?aR (fun _ _ h => h) (fun _ h => h.elim) ?aF ?aB ?aS ?aL ?_; (case aR => repeat (first | exact (Kd.R_reads' HO299.out).2.2 | (with_reducible refine Kd.C_alloc ?_ _) | (with_reducible refine Kd.C_drewN ?_ _) | (with_reducible refine Kd.C_drew ?_))); (case aB => exact (by repeat (first | (with_reducible first | exact HB.out | apply below_alloc | apply pw_below_drewN | apply below_drew1 | refine below_set ?_ GE262.out) | exact HB.out))); (case aF => exact (fun k_ hk => Kd.fresh' (Kd.R_lt zq23) k_ hk)); (case aO => exact zq18); (case aS => exact (below_size (by repeat (first | (with_reducible first | exact HB.out | apply below_alloc | apply pw_below_drewN | apply below_drew1 | refine below_set ?_ GE262.out) | exact HB.out)))); (case aL => have := LMc44.out; omega); intro v301 w50 ho hb hg hat; rw [← Ny300.out] at ho; have n0_ := zA (blk_grown (g := gb262) (o := .cells #[.int .i64 a0_0, .slice A0_1 l0_1.length c0_1, .slice (some ad295) l0_2.length c0_2, .slice A0_3 l0_3.length c0_3] 59 (0, 0)) (by (with_reducible repeat (first | refine blk_drewN ?_ _ | refine blk_drew ?_ | refine blk_alloc ?_ _)); exact BK262.out) hg (Kd.R_ne HO_3.out BK262.out zq15)); have n1_ := zA (Kd.R_after (ok := (fun _ => True)) zq23 hg hat); have n2_ := zA (hb); have n3_ := zA (ho); clear BK262; clear HO299; clear HB; clear HO_3; have BK262 := n0_; have HO299 := n1_; have HB := n2_; have HO302 := n3_; clear n0_ n1_ n2_ n3_; clear ho hb hg hat; have hcz52_0 : w50.cell? ⟨gb262, 0, none⟩ = some (.int .i64 a0_0) := (blk_cell BK262.out 0).trans rfl; have hcz52_1 : w50.cell? ⟨gb262, 1, none⟩ = some (.slice A0_1 l0_1.length c0_1) := (blk_cell BK262.out 1).trans rfl; have hcz52_2 : w50.cell? ⟨gb262, 2, none⟩ = some (.slice (some ad295) l0_2.length c0_2) := (blk_cell BK262.out 2).trans rfl; have hcz52_3 : w50.cell? ⟨gb262, 3, none⟩ = some (.slice A0_3 l0_3.length c0_3) := (blk_cell BK262.out 3).trans rfl; have hfz52_0 := blk_frozen BK262.out 0; have hfz52_1 := blk_frozen BK262.out 1; have hfz52_2 := blk_frozen BK262.out 2; have hfz52_3 := blk_frozen BK262.out 3; have p303 : 0 ≤ (x5_2 : Int) := of_decide_eq_true zq2; have q303 : x5_2 < (l0_3.length : Int) := of_decide_eq_true zq2; obtain ⟨ad303, A303_0, c303_0, e303, hx303_0, hl303_0, hi303_0⟩ := at_L3 HR0_3.out x5_2 p303 q303; cases e303; replace hx303_0 := (HB.out.cell (World.block_lt_of_cell? w _ hx303_0)).trans hx303_0; have HR303_0 := zA hi303_0; have HC303_0 := zA hl303_0; clear hi303_0 hl303_0; replace p303 := eq_true p303; replace q303 := eq_true q303) | ((with_reducible refine gate_callee (f := 81) rfl ?_); refine goesL_ (some 83) rfl rfl Tryz.func81 zq5 rfl #[.int .i64 ((rd_L3 l0_3 x5_2).length : Int)] rfl zq6 ?_; (with_reducible refine (spec_l4varint.calls kj35 ((rd_L3 l0_3 x5_2).length : Int) t304 _ A47.out).mono ?_); rintro e w53 ⟨v305, rfl, ho0, hb⟩; refine ⟨_, rfl, ?_⟩; have n0_ := zA (Kd.R_elder' zq23 (Kd.R_base ho0) hb); have n1_ := zA (Kd.R_elder' zq37 (Kd.R_base ho0) hb); have n2_ := zA (Kd.R_lower (Kd.R_new' (Kd.R_new' ho0 (Kd.R_lt zq23)) (Kd.R_lt zq37)) (below_size (by repeat (first | (with_reducible first | exact HB.out | apply below_alloc | apply pw_below_drewN | apply below_drew1 | refine below_set ?_ GE262.out) | exact HB.out)))); have n3_ := zA (blk_below (g := gb262) (o := .cells #[.int .i64 a0_0, .slice A0_1 l0_1.length c0_1, .slice (some ad295) l0_2.length c0_2, .slice (some ad303) l0_3.length c0_3] 59 (0, 0)) (by (with_reducible repeat (first | refine blk_drewN ?_ _ | refine blk_drew ?_ | refine blk_alloc ?_ _)); exact BK262.out) hb); have n4_ := zA (below_step (by repeat (first | (with_reducible first | exact HB.out | apply below_alloc | apply pw_below_drewN | apply below_drew1 | refine below_set ?_ GE262.out) | exact HB.out)) hb); clear HO299; clear HO302; clear BK262; clear HB; have HO299 := n0_; have HO302 := n1_; have HO306 := n2_; have BK262 := n3_; have HB := n4_; clear n0_ n1_ n2_ n3_ n4_; (try clear hb); (try clear hb2); (try clear hk); (try clear hi); (try clear ho0); obtain ⟨Ao55, co55, eo55⟩ := Kd.R_slice HO306.out; subst eo55) | ((with_reducible refine gate_builtin (b := .append) (xs := #[.tmp 76, .tmp 83]) rfl ?_); at_builtin; refine Kd.R_append_rows (Kd.int .u8) (w0 := w) w.heap.size rfl (.tmp 76) (.tmp 83) 25 5 (.int .u8 0) 1 rfl Tryz.underlying25 info5 rfl zq15 zq1 v301 y300 t304 _ _ _ (fun k_ => some k_ ≠ (.slice Ao51 t297.length co51 : Value).ownBlock ∧ some k_ ≠ (.slice Ao55 t304.length co55 : Value).ownBlock) (fun _ => False) rfl rfl ?aO ?aR (fun _ _ h => h) (fun _ h => h.elim) ?aF ?aB ?aS ?aL ?_; (case aR => repeat (first | exact (Kd.R_reads' HO306.out).2.2 | (with_reducible refine Kd.C_alloc ?_ _) | (with_reducible refine Kd.C_drewN ?_ _) | (with_reducible refine Kd.C_drew ?_))); (case aB => exact (by repeat (first | (with_reducible first | exact HB.out | apply below_alloc | apply pw_below_drewN | apply below_drew1 | refine below_set ?_ GE262.out) | exact HB.out))); (case aF => exact (fun k_ hk => ⟨Kd.fresh' (Kd.R_lt zq23) k_ hk, Kd.fresh' (Kd.R_lt (by (with_reducible repeat (first | apply Kd.R_alloc | apply Kd.R_drewN | apply Kd.R_drew)); exact HO306.out)) k_ hk⟩)); (case aO => exact zq37); (case aS => exact (below_size (by repeat (first | (with_reducible first | exact HB.out | apply below_alloc | apply pw_below_drewN | apply below_drew1 | refine below_set ?_ GE262.out) | exact HB.out)))); (case aL => have := LMc48.out; omega); intro v308 w54 ho hb hg hat; rw [← Ny307.out] at ho; have n0_ := zA (blk_grown (g := gb262) (o := .cells #[.int .i64 a0_0, .slice A0_1 l0_1.length c0_1, .slice (some ad295) l0_2.length c0_2, .slice (some ad303) l0_3.length c0_3] 59 (0, 0)) (by (with_reducible repeat (first | refine blk_drewN ?_ _ | refine blk_drew ?_ | refine blk_alloc ?_ _)); exact BK262.out) hg (Kd.R_ne HO302.out BK262.out zq15)); have n1_ := zA (Kd.R_after (ok := (fun k_ => some k_ ≠ (.slice Ao55 t304.length co55 : Value).ownBlock)) (by (with_reducible repeat (first | apply Kd.R_alloc | apply Kd.R_drewN | apply Kd.R_drew)); exact Kd.R_mono HO299.out (fun _ hk => ⟨hk.2, hk.1.2⟩)) hg hat); have n2_ := zA (Kd.R_after (ok := (fun k_ => some k_ ≠ (.slice Ao51 t297.length co51 : Value).ownBlock)) (by (with_reducible repeat (first | apply Kd.R_alloc | apply Kd.R_drewN | apply Kd.R_drew)); exact Kd.R_mono HO306.out (fun _ hk => ⟨hk.1.2, hk.2⟩)) hg hat); have n3_ := zA (hb); have n4_ := zA (ho); clear BK262; clear HO299; clear HO306; clear HB; clear HO302; have BK262 := n0_; have HO299 := n1_; have HO306 := n2_; have HB := n3_; have HO309 := n4_; clear n0_ n1_ n2_ n3_ n4_; clear ho hb hg hat))
                 go_loopg [3, 7] kj35 (fun kq v3 v7 w' => ∃ (x3_4 : List Int) (x7_4 : Int), v7 = .int .i64 x7_4 ∧ Aside0 (spec_l4body.l2 kq x3_4 x5_2 x7_4 a0_0 l0_1 l0_2 l0_3 = some r) ∧ Aside0 (kq ≤ kj35) ∧ Aside0 (Kd.R (Kd.int .u8) 5 w' w.heap.size (fun _ => True) v3 x3_4) ∧ Aside0 (w'.heap[gb262]? = some (.cells #[.int .i64 a0_0, (.slice A0_1 l0_1.length c0_1), (.slice (some ad295) l0_2.length c0_2), (.slice (some ad303) l0_3.length c0_3)] 59 (0, 0))) ∧ Aside0 (Below w.heap.size w w'))
                 case atStart => exact ⟨(y307), (0), zq4, H', ⟨Nat.le_refl _⟩, ⟨by (with_reducible repeat (first | apply Kd.R_alloc | apply Kd.R_drewN | apply Kd.R_drew)); exact Kd.R_mono HO309.out (fun _ hk => trivial)⟩, ⟨by (with_reducible repeat (first | refine blk_drewN ?_ _ | refine blk_drew ?_ | refine blk_alloc ?_ _)); exact BK262.out⟩, ⟨by repeat (first | (with_reducible first | exact HB.out | apply below_alloc | apply pw_below_drewN | apply below_drew1 | refine below_set ?_ GE262.out) | exact HB.out)⟩⟩
                 case round =>
                  clear H'
                  try clear c1
                  try clear c2
                  try clear p2
                  try clear q2
                  try clear hx2
                  try clear c3
                  try clear p3
                  try clear q3
                  try clear hx3
                  try clear c4
                  try clear c5
                  try clear p6
                  try clear c8
                  try clear c17
                  try clear c17b0
                  try clear c18
                  try clear c18b0
                  try clear c20
                  try clear c21
                  try clear c27
                  try clear p27
                  try clear q27
                  try clear hx27
                  try clear c28
                  try clear p28
                  try clear q28
                  try clear hx28
                  try clear c29
                  try clear p29
                  try clear q29
                  try clear hx29
                  try clear c30
                  try clear p30
                  try clear q30
                  try clear hx30
                  try clear c34
                  try clear c34b0
                  try clear c35
                  try clear c35b0
                  try clear c38
                  try clear c38b0
                  try clear c40
                  try clear c40b0
                  try clear c41
                  try clear c41b0
                  try clear c44
                  try clear c45
                  try clear c45b0
                  try clear c46
                  try clear c46b0
                  try clear c48
                  try clear hcz13_0
                  try clear hcz13_1
                  try clear hcz13_2
                  try clear hcz13_3
                  try clear hcz22_0
                  try clear hcz22_1
                  try clear hcz22_2
                  try clear hcz22_3
                  try clear hcz26_0
                  try clear hcz26_1
                  try clear hcz26_2
                  try clear hcz26_3
                  try clear hcz30_0
                  try clear hcz30_1
                  try clear hcz30_2
                  try clear hcz30_3
                  try clear hcz37_0
                  try clear hcz37_1
                  try clear hcz37_2
                  try clear hcz37_3
                  try clear hcz42_0
                  try clear hcz42_1
                  try clear hcz42_2
                  try clear hcz42_3
                  try clear hcz52_0
                  try clear hcz52_1
                  try clear hcz52_2
                  try clear hcz52_3
                  try clear hcz9_0
                  try clear hcz9_1
                  try clear hcz9_2
                  try clear hcz9_3
                  try clear hfz13_0
                  try clear hfz13_1
                  try clear hfz13_2
                  try clear hfz13_3
                  try clear hfz22_0
                  try clear hfz22_1
                  try clear hfz22_2
                  try clear hfz22_3
                  try clear hfz26_0
                  try clear hfz26_1
                  try clear hfz26_2
                  try clear hfz26_3
                  try clear hfz30_0
                  try clear hfz30_1
                  try clear hfz30_2
                  try clear hfz30_3
                  try clear hfz37_0
                  try clear hfz37_1
                  try clear hfz37_2
                  try clear hfz37_3
                  try clear hfz42_0
                  try clear hfz42_1
                  try clear hfz42_2
                  try clear hfz42_3
                  try clear hfz52_0
                  try clear hfz52_1
                  try clear hfz52_2
                  try clear hfz52_3
                  try clear hfz9_0
                  try clear hfz9_1
                  try clear hfz9_2
                  try clear hfz9_3
                  try clear hx278_0
                  try clear hx285_0
                  try clear hx295_0
                  try clear hx296_0
                  try clear hx303_0
                  try clear p2
                  try clear p27
                  try clear p278
                  try clear p28
                  try clear p285
                  try clear p29
                  try clear p295
                  try clear p296
                  try clear p303
                  try clear p6
                  try clear q2
                  try clear q27
                  try clear q278
                  try clear q28
                  try clear q285
                  try clear q29
                  try clear q295
                  try clear q296
                  try clear q303
                  obtain ⟨x3_4, x7_4, rfl, HA, HK4, HO_3, BK262, HB⟩ := hrel
                  cases gk with
                  | zero => exact absurd HA.out (by simp [spec_l4body.l2])
                  | succ k4 =>
                   have H := HA.out
                   clear HA
                   simp only [spec_l4body.l2] at H
                   by_cases c56 : 0 ≤ x5_2
                   ·rw [if_pos c56] at H
                    have c56b0 : decide (0 ≤ x5_2) = true := decide_eq_true c56
                    clear c56
                    by_cases c57 : x5_2 < (l0_3.length : Int)
                    ·rw [if_pos c57] at H
                     have c57b0 : decide (x5_2 < (l0_3.length : Int)) = true := decide_eq_true c57
                     clear c57
                     by_cases c58 : x7_4 < ((rd_L3 l0_3 x5_2).length : Int)
                     ·rw [if_pos c58] at H
                      have c58b0 : decide (x7_4 < ((rd_L3 l0_3 x5_2).length : Int)) = true := decide_eq_true c58
                      clear c58
                      by_cases c59 : x7_4 > 0
                      ·rw [if_pos c59] at H
                       have c59b0 : decide (0 < x7_4) = true := decide_eq_true c59
                       clear c59
                       obtain ⟨ji60, hji60⟩ : ∃ j_ : Int, (wrap64 (x7_4 - 1)) = j_ := ⟨_, rfl⟩
                       replace H : (if 0 ≤ (ji60) then (if (ji60) < ((rd_L3 l0_3 x5_2).length : Int) then (if 0 ≤ x7_4 then ((spec_l4varint.f k4 (wrap64 ((rd (rd_L3 l0_3 x5_2) x7_4) - (rd (rd_L3 l0_3 x5_2) (ji60))))).bind fun t315 => (if x3_4.length + t315.length < 140737488355328 then (spec_l4body.l2 k4 (x3_4 ++ t315) x5_2 (wrap64 (x7_4 + 1)) a0_0 l0_1 l0_2 l0_3) else (none))) else (none)) else (none)) else (none)) = some r := by first | (rw [hji60] at H; exact H) | (simp only [hji60] at H ⊢; exact H)
                       have hji60w : (IntKind.i64.wrap (x7_4 - 1)) = ji60 := (i64_w _).trans hji60
                       by_cases c61 : 0 ≤ (ji60)
                       ·rw [if_pos c61] at H
                        have c61b0 : decide (0 ≤ (ji60)) = true := decide_eq_true c61
                        clear c61
                        by_cases c62 : (ji60) < ((rd_L3 l0_3 x5_2).length : Int)
                        ·rw [if_pos c62] at H
                         have c62b0 : decide ((ji60) < ((rd_L3 l0_3 x5_2).length : Int)) = true := decide_eq_true c62
                         clear c62
                         by_cases c63 : 0 ≤ x7_4
                         ·rw [if_pos c63] at H
                          have c63b0 : decide (0 ≤ x7_4) = true := decide_eq_true c63
                          clear c63
                          replace H := Option.bind_eq_some_iff.mp H
                          obtain ⟨t315, A640, H⟩ := H
                          replace H : (if x3_4.length + t315.length < 140737488355328 then (spec_l4body.l2 k4 (x3_4 ++ t315) x5_2 (wrap64 (x7_4 + 1)) a0_0 l0_1 l0_2 l0_3) else (none)) = some r := H
                          have A64 := zA A640
                          clear A640
                          by_cases c65 : x3_4.length + t315.length < 140737488355328
                          ·rw [if_pos c65] at H
                           have LMc65 := zA c65
                           clear c65
                           obtain ⟨y318, hy318⟩ : ∃ y_ : List Int, y_ = (x3_4 ++ t315) := ⟨_, rfl⟩
                           replace H : (spec_l4body.l2 k4 y318 x5_2 (wrap64 (x7_4 + 1)) a0_0 l0_1 l0_2 l0_3) = some r := by first | (rw [hy318]; with_reducible exact H) | (have H2_ := (Option.bind_some _ _).symm.trans H; rw [hy318]; with_reducible exact H2_) | (have H2_ := (Option.bind_some _ _).symm.trans H; with_reducible exact H2_) | with_reducible exact H | (rw [hy318]; exact H) | exact H
                           have Ny318 := zA hy318
                           clear hy318
                           have H' := zA H
                           clear H
                           have hcz66_0 : wr.cell? ⟨gb262, 0, none⟩ = some (.int .i64 a0_0) := (blk_cell BK262.out 0).trans rfl
                           have hcz66_1 : wr.cell? ⟨gb262, 1, none⟩ = some (.slice A0_1 l0_1.length c0_1) := (blk_cell BK262.out 1).trans rfl
                           have hcz66_2 : wr.cell? ⟨gb262, 2, none⟩ = some (.slice (some ad295) l0_2.length c0_2) := (blk_cell BK262.out 2).trans rfl
                           have hcz66_3 : wr.cell? ⟨gb262, 3, none⟩ = some (.slice (some ad303) l0_3.length c0_3) := (blk_cell BK262.out 3).trans rfl
                           have hfz66_0 := blk_frozen BK262.out 0
                           have hfz66_1 := blk_frozen BK262.out 1
                           have hfz66_2 := blk_frozen BK262.out 2
                           have hfz66_3 := blk_frozen BK262.out 3
                           have p310 : 0 ≤ (x5_2 : Int) := of_decide_eq_true zq2
                           have q310 : x5_2 < (l0_3.length : Int) := of_decide_eq_true zq2
                           obtain ⟨ad310, A310_0, c310_0, e310, hx310_0, hl310_0, hi310_0⟩ := at_L3 HR0_3.out x5_2 p310 q310
                           obtain rfl : ad303 = ad310 := (by injection e310)
                           replace hx310_0 := (HB.out.cell (World.block_lt_of_cell? w _ hx310_0)).trans hx310_0
                           have HR310_0 := zA hi310_0
                           have HC310_0 := zA hl310_0
                           clear hi310_0 hl310_0
                           replace p310 := eq_true p310
                           replace q310 := eq_true q310
                           have p311 : 0 ≤ (x5_2 : Int) := of_decide_eq_true zq2
                           have q311 : x5_2 < (l0_3.length : Int) := of_decide_eq_true zq2
                           obtain ⟨ad311, A311_0, c311_0, e311, hx311_0, hl311_0, hi311_0⟩ := at_L3 HR0_3.out x5_2 p311 q311
                           obtain rfl : ad303 = ad311 := (by injection e311)
                           replace hx311_0 := (HB.out.cell (World.block_lt_of_cell? w _ hx311_0)).trans hx311_0
                           have HR311_0 := zA hi311_0
                           have HC311_0 := zA hl311_0
                           clear hi311_0 hl311_0
                           replace p311 := eq_true p311
                           replace q311 := eq_true q311
                           have ea_ := Option.some.inj (hx310_0.symm.trans hx311_0)
                           injection ea_ with ea_ en_ ec_
                           subst ea_
                           subst ec_
                           clear en_
                           have p312 : 0 ≤ ((ji60) : Int) := of_decide_eq_true zq2
                           have q312 : (ji60) < ((rd_L3 l0_3 x5_2).length : Int) := of_decide_eq_true zq2
                           obtain ⟨ad312, e312, hx312_0⟩ := Kd.at_int HR311_0.out (ji60) p312 q312
                           cases e312
                           replace hx312_0 := (HB.out.cell (World.block_lt_of_cell? w _ hx312_0)).trans hx312_0
                           replace p312 := eq_true p312
                           replace q312 := eq_true q312
                           have p313 : 0 ≤ (x5_2 : Int) := of_decide_eq_true zq2
                           have q313 : x5_2 < (l0_3.length : Int) := of_decide_eq_true zq2
                           obtain ⟨ad313, A313_0, c313_0, e313, hx313_0, hl313_0, hi313_0⟩ := at_L3 HR0_3.out x5_2 p313 q313
                           obtain rfl : ad303 = ad313 := (by injection e313)
                           replace hx313_0 := (HB.out.cell (World.block_lt_of_cell? w _ hx313_0)).trans hx313_0
                           have HR313_0 := zA hi313_0
                           have HC313_0 := zA hl313_0
                           clear hi313_0 hl313_0
                           replace p313 := eq_true p313
                           replace q313 := eq_true q313
                           have ea_ := Option.some.inj (hx310_0.symm.trans hx313_0)
                           injection ea_ with ea_ en_ ec_
                           subst ea_
                           subst ec_
                           clear en_
                           have p314 : 0 ≤ (x7_4 : Int) := of_decide_eq_true zq2
                           have q314 : x7_4 < ((rd_L3 l0_3 x5_2).length : Int) := of_decide_eq_true zq2
                           obtain ⟨ad314, e314, hx314_0⟩ := Kd.at_int HR313_0.out x7_4 p314 q314
                           cases e314
                           replace hx314_0 := (HB.out.cell (World.block_lt_of_cell? w _ hx314_0)).trans hx314_0
                           replace p314 := eq_true p314
                           replace q314 := eq_true q314
                           go_wp2_with (first | ((with_reducible refine gate_callee (f := 81) rfl ?_); refine goesL_ (some 119) rfl rfl Tryz.func81 zq5 rfl #[.int .i64 (wrap64 ((rd (rd_L3 l0_3 x5_2) x7_4) - (rd (rd_L3 l0_3 x5_2) (ji60))))] rfl (by (try simp only [List.map_toArray, List.map_cons, List.map_nil]); first | done | (simp only [hji60]; rfl) | rfl | (simp only [List.length_drop, List.length_take]; rfl)) ?_; (with_reducible refine (spec_l4varint.calls k4 (wrap64 ((rd (rd_L3 l0_3 x5_2) x7_4) - (rd (rd_L3 l0_3 x5_2) (ji60)))) t315 _ A64.out).mono ?_); rintro e w67 ⟨v316, rfl, ho0, hb⟩; refine ⟨_, rfl, ?_⟩; have n0_ := zA (Kd.R_elder' zq10 (Kd.R_base ho0) hb); have n1_ := zA (Kd.R_lower (Kd.R_new' ho0 (Kd.R_lt zq10)) (below_size (by repeat (first | (with_reducible first | exact HB.out | apply below_alloc | apply pw_below_drewN | apply below_drew1 | refine below_set ?_ GE262.out) | exact HB.out)))); have n2_ := zA (blk_below (g := gb262) (o := .cells #[.int .i64 a0_0, .slice A0_1 l0_1.length c0_1, .slice (some ad295) l0_2.length c0_2, .slice (some ad303) l0_3.length c0_3] 59 (0, 0)) (by (with_reducible repeat (first | refine blk_drewN ?_ _ | refine blk_drew ?_ | refine blk_alloc ?_ _)); exact BK262.out) hb); have n3_ := zA (below_step (by repeat (first | (with_reducible first | exact HB.out | apply below_alloc | apply pw_below_drewN | apply below_drew1 | refine below_set ?_ GE262.out) | exact HB.out)) hb); clear HO_3; clear BK262; clear HB; have HO_3 := n0_; have HO317 := n1_; have BK262 := n2_; have HB := n3_; clear n0_ n1_ n2_ n3_; (try clear hb); (try clear hb2); (try clear hk); (try clear hi); (try clear ho0); obtain ⟨Ao69, co69, eo69⟩ := Kd.R_slice HO317.out; subst eo69) | ((with_reducible refine gate_builtin (b := .append) (xs := #[.tmp 108, .tmp 119]) rfl ?_); at_builtin; refine Kd.R_append_rows (Kd.int .u8) (w0 := w) w.heap.size rfl (.tmp 108) (.tmp 119) 25 5 (.int .u8 0) 1 rfl Tryz.underlying25 info5 rfl zq15 zq1 u3 x3_4 t315 _ _ _ (fun k_ => some k_ ≠ (.slice Ao69 t315.length co69 : Value).ownBlock) (fun _ => False) rfl rfl ?aO ?aR (fun _ _ h => h) (fun _ h => h.elim) ?aF ?aB ?aS ?aL ?_; (case aR => repeat (first | exact (Kd.R_reads' HO317.out).2.2 | (with_reducible refine Kd.C_alloc ?_ _) | (with_reducible refine Kd.C_drewN ?_ _) | (with_reducible refine Kd.C_drew ?_))); (case aB => exact (by repeat (first | (with_reducible first | exact HB.out | apply below_alloc | apply pw_below_drewN | apply below_drew1 | refine below_set ?_ GE262.out) | exact HB.out))); (case aF => exact (fun k_ hk => Kd.fresh' (Kd.R_lt (by (with_reducible repeat (first | apply Kd.R_alloc | apply Kd.R_drewN | apply Kd.R_drew)); exact HO317.out)) k_ hk)); (case aO => exact zq18); (case aS => exact (below_size (by repeat (first | (with_reducible first | exact HB.out | apply below_alloc | apply pw_below_drewN | apply below_drew1 | refine below_set ?_ GE262.out) | exact HB.out)))); (case aL => have := LMc65.out; omega); intro v319 w68 ho hb hg hat; rw [← Ny318.out] at ho; have n0_ := zA (blk_grown (g := gb262) (o := .cells #[.int .i64 a0_0, .slice A0_1 l0_1.length c0_1, .slice (some ad295) l0_2.length c0_2, .slice (some ad303) l0_3.length c0_3] 59 (0, 0)) (by (with_reducible repeat (first | refine blk_drewN ?_ _ | refine blk_drew ?_ | refine blk_alloc ?_ _)); exact BK262.out) hg (Kd.R_ne HO_3.out BK262.out zq15)); have n1_ := zA (Kd.R_after (ok := (fun _ => True)) (by (with_reducible repeat (first | apply Kd.R_alloc | apply Kd.R_drewN | apply Kd.R_drew)); exact HO317.out) hg hat); have n2_ := zA (hb); have n3_ := zA (ho); clear BK262; clear HO317; clear HB; clear HO_3; have BK262 := n0_; have HO317 := n1_; have HB := n2_; have HO320 := n3_; clear n0_ n1_ n2_ n3_; clear ho hb hg hat))
                           go_roundg k4
                           case measure => have := HK1.out; have := HK2.out; have := HJ35.out; have := HK4.out; omega
                           case rel => exact ⟨(y318), (wrap64 (x7_4 + 1)), zq4, H', ⟨by have := HK1.out; have := HK2.out; have := HJ35.out; have := HK4.out; omega⟩, ⟨by (with_reducible repeat (first | apply Kd.R_alloc | apply Kd.R_drewN | apply Kd.R_drew)); exact Kd.R_mono HO320.out (fun _ hk => trivial)⟩, ⟨by (with_reducible repeat (first | refine blk_drewN ?_ _ | refine blk_drew ?_ | refine blk_alloc ?_ _)); exact BK262.out⟩, ⟨by repeat (first | (with_reducible first | exact HB.out | apply below_alloc | apply pw_below_drewN | apply below_drew1 | refine below_set ?_ GE262.out) | exact HB.out)⟩⟩
                          ·rw [if_neg c65] at H
                           exact absurd H zq12
                         ·rw [if_neg c63] at H
                          exact absurd H zq12
                        ·rw [if_neg c62] at H
                         exact absurd H zq12
                       ·rw [if_neg c61] at H
                        exact absurd H zq12
                      ·rw [if_neg c59] at H
                       have c59b0 : decide (0 < x7_4) = false := decide_eq_false c59
                       clear c59
                       by_cases c70 : 0 ≤ x7_4
                       ·rw [if_pos c70] at H
                        have c70b0 : decide (0 ≤ x7_4) = true := decide_eq_true c70
                        clear c70
                        replace H := Option.bind_eq_some_iff.mp H
                        obtain ⟨t323, A710, H⟩ := H
                        replace H : (if x3_4.length + t323.length < 140737488355328 then (spec_l4body.l2 k4 (x3_4 ++ t323) x5_2 (wrap64 (x7_4 + 1)) a0_0 l0_1 l0_2 l0_3) else (none)) = some r := H
                        have A71 := zA A710
                        clear A710
                        by_cases c72 : x3_4.length + t323.length < 140737488355328
                        ·rw [if_pos c72] at H
                         have LMc72 := zA c72
                         clear c72
                         obtain ⟨y326, hy326⟩ : ∃ y_ : List Int, y_ = (x3_4 ++ t323) := ⟨_, rfl⟩
                         replace H : (spec_l4body.l2 k4 y326 x5_2 (wrap64 (x7_4 + 1)) a0_0 l0_1 l0_2 l0_3) = some r := by first | (rw [hy326]; with_reducible exact H) | (have H2_ := (Option.bind_some _ _).symm.trans H; rw [hy326]; with_reducible exact H2_) | (have H2_ := (Option.bind_some _ _).symm.trans H; with_reducible exact H2_) | with_reducible exact H | (rw [hy326]; exact H) | exact H
                         have Ny326 := zA hy326
                         clear hy326
                         have H' := zA H
                         clear H
                         have hcz73_0 : wr.cell? ⟨gb262, 0, none⟩ = some (.int .i64 a0_0) := (blk_cell BK262.out 0).trans rfl
                         have hcz73_1 : wr.cell? ⟨gb262, 1, none⟩ = some (.slice A0_1 l0_1.length c0_1) := (blk_cell BK262.out 1).trans rfl
                         have hcz73_2 : wr.cell? ⟨gb262, 2, none⟩ = some (.slice (some ad295) l0_2.length c0_2) := (blk_cell BK262.out 2).trans rfl
                         have hcz73_3 : wr.cell? ⟨gb262, 3, none⟩ = some (.slice (some ad303) l0_3.length c0_3) := (blk_cell BK262.out 3).trans rfl
                         have hfz73_0 := blk_frozen BK262.out 0
                         have hfz73_1 := blk_frozen BK262.out 1
                         have hfz73_2 := blk_frozen BK262.out 2
                         have hfz73_3 := blk_frozen BK262.out 3
                         have p310 : 0 ≤ (x5_2 : Int) := of_decide_eq_true zq2
                         have q310 : x5_2 < (l0_3.length : Int) := of_decide_eq_true zq2
                         obtain ⟨ad310, A310_0, c310_0, e310, hx310_0, hl310_0, hi310_0⟩ := at_L3 HR0_3.out x5_2 p310 q310
                         obtain rfl : ad303 = ad310 := (by injection e310)
                         replace hx310_0 := (HB.out.cell (World.block_lt_of_cell? w _ hx310_0)).trans hx310_0
                         have HR310_0 := zA hi310_0
                         have HC310_0 := zA hl310_0
                         clear hi310_0 hl310_0
                         replace p310 := eq_true p310
                         replace q310 := eq_true q310
                         have p321 : 0 ≤ (x5_2 : Int) := of_decide_eq_true zq2
                         have q321 : x5_2 < (l0_3.length : Int) := of_decide_eq_true zq2
                         obtain ⟨ad321, A321_0, c321_0, e321, hx321_0, hl321_0, hi321_0⟩ := at_L3 HR0_3.out x5_2 p321 q321
                         obtain rfl : ad303 = ad321 := (by injection e321)
                         replace hx321_0 := (HB.out.cell (World.block_lt_of_cell? w _ hx321_0)).trans hx321_0
                         have HR321_0 := zA hi321_0
                         have HC321_0 := zA hl321_0
                         clear hi321_0 hl321_0
                         replace p321 := eq_true p321
                         replace q321 := eq_true q321
                         have ea_ := Option.some.inj (hx310_0.symm.trans hx321_0)
                         injection ea_ with ea_ en_ ec_
                         subst ea_
                         subst ec_
                         clear en_
                         have p322 : 0 ≤ (x7_4 : Int) := of_decide_eq_true zq2
                         have q322 : x7_4 < ((rd_L3 l0_3 x5_2).length : Int) := of_decide_eq_true zq2
                         obtain ⟨ad322, e322, hx322_0⟩ := Kd.at_int HR321_0.out x7_4 p322 q322
                         cases e322
                         replace hx322_0 := (HB.out.cell (World.block_lt_of_cell? w _ hx322_0)).trans hx322_0
                         replace p322 := eq_true p322
                         replace q322 := eq_true q322
                         go_wp2_with (first | ((with_reducible refine gate_callee (f := 81) rfl ?_); refine goesL_ (some 119) rfl rfl Tryz.func81 zq5 rfl #[.int .i64 (wrap64 ((rd (rd_L3 l0_3 x5_2) x7_4) - a0_0))] rfl zq6 ?_; (with_reducible refine (spec_l4varint.calls k4 (wrap64 ((rd (rd_L3 l0_3 x5_2) x7_4) - a0_0)) t323 _ A71.out).mono ?_); rintro e w74 ⟨v324, rfl, ho0, hb⟩; refine ⟨_, rfl, ?_⟩; have n0_ := zA (Kd.R_elder' zq10 (Kd.R_base ho0) hb); have n1_ := zA (Kd.R_lower (Kd.R_new' ho0 (Kd.R_lt zq10)) (below_size (by repeat (first | (with_reducible first | exact HB.out | apply below_alloc | apply pw_below_drewN | apply below_drew1 | refine below_set ?_ GE262.out) | exact HB.out)))); have n2_ := zA (blk_below (g := gb262) (o := .cells #[.int .i64 a0_0, .slice A0_1 l0_1.length c0_1, .slice (some ad295) l0_2.length c0_2, .slice (some ad303) l0_3.length c0_3] 59 (0, 0)) (by (with_reducible repeat (first | refine blk_drewN ?_ _ | refine blk_drew ?_ | refine blk_alloc ?_ _)); exact BK262.out) hb); have n3_ := zA (below_step (by repeat (first | (with_reducible first | exact HB.out | apply below_alloc | apply pw_below_drewN | apply below_drew1 | refine below_set ?_ GE262.out) | exact HB.out)) hb); clear HO_3; clear BK262; clear HB; have HO_3 := n0_; have HO325 := n1_; have BK262 := n2_; have HB := n3_; clear n0_ n1_ n2_ n3_; (try clear hb); (try clear hb2); (try clear hk); (try clear hi); (try clear ho0); obtain ⟨Ao76, co76, eo76⟩ := Kd.R_slice HO325.out; subst eo76) | ((with_reducible refine gate_builtin (b := .append) (xs := #[.tmp 108, .tmp 119]) rfl ?_); at_builtin; refine Kd.R_append_rows (Kd.int .u8) (w0 := w) w.heap.size rfl (.tmp 108) (.tmp 119) 25 5 (.int .u8 0) 1 rfl Tryz.underlying25 info5 rfl zq15 zq1 u3 x3_4 t323 _ _ _ (fun k_ => some k_ ≠ (.slice Ao76 t323.length co76 : Value).ownBlock) (fun _ => False) rfl rfl ?aO ?aR (fun _ _ h => h) (fun _ h => h.elim) ?aF ?aB ?aS ?aL ?_; (case aR => repeat (first | exact (Kd.R_reads' HO325.out).2.2 | (with_reducible refine Kd.C_alloc ?_ _) | (with_reducible refine Kd.C_drewN ?_ _) | (with_reducible refine Kd.C_drew ?_))); (case aB => exact (by repeat (first | (with_reducible first | exact HB.out | apply below_alloc | apply pw_below_drewN | apply below_drew1 | refine below_set ?_ GE262.out) | exact HB.out))); (case aF => exact (fun k_ hk => Kd.fresh' (Kd.R_lt (by (with_reducible repeat (first | apply Kd.R_alloc | apply Kd.R_drewN | apply Kd.R_drew)); exact HO325.out)) k_ hk)); (case aO => exact zq18); (case aS => exact (below_size (by repeat (first | (with_reducible first | exact HB.out | apply below_alloc | apply pw_below_drewN | apply below_drew1 | refine below_set ?_ GE262.out) | exact HB.out)))); (case aL => have := LMc72.out; omega); intro v327 w75 ho hb hg hat; rw [← Ny326.out] at ho; have n0_ := zA (blk_grown (g := gb262) (o := .cells #[.int .i64 a0_0, .slice A0_1 l0_1.length c0_1, .slice (some ad295) l0_2.length c0_2, .slice (some ad303) l0_3.length c0_3] 59 (0, 0)) (by (with_reducible repeat (first | refine blk_drewN ?_ _ | refine blk_drew ?_ | refine blk_alloc ?_ _)); exact BK262.out) hg (Kd.R_ne HO_3.out BK262.out zq15)); have n1_ := zA (Kd.R_after (ok := (fun _ => True)) (by (with_reducible repeat (first | apply Kd.R_alloc | apply Kd.R_drewN | apply Kd.R_drew)); exact HO325.out) hg hat); have n2_ := zA (hb); have n3_ := zA (ho); clear BK262; clear HO325; clear HB; clear HO_3; have BK262 := n0_; have HO325 := n1_; have HB := n2_; have HO328 := n3_; clear n0_ n1_ n2_ n3_; clear ho hb hg hat))
                         go_roundg k4
                         case measure => have := HK1.out; have := HK2.out; have := HJ35.out; have := HK4.out; omega
                         case rel => exact ⟨(y326), (wrap64 (x7_4 + 1)), zq4, H', ⟨by have := HK1.out; have := HK2.out; have := HJ35.out; have := HK4.out; omega⟩, ⟨by (with_reducible repeat (first | apply Kd.R_alloc | apply Kd.R_drewN | apply Kd.R_drew)); exact Kd.R_mono HO328.out (fun _ hk => trivial)⟩, ⟨by (with_reducible repeat (first | refine blk_drewN ?_ _ | refine blk_drew ?_ | refine blk_alloc ?_ _)); exact BK262.out⟩, ⟨by repeat (first | (with_reducible first | exact HB.out | apply below_alloc | apply pw_below_drewN | apply below_drew1 | refine below_set ?_ GE262.out) | exact HB.out)⟩⟩
                        ·rw [if_neg c72] at H
                         exact absurd H zq12
                       ·rw [if_neg c70] at H
                        exact absurd H zq12
                     ·rw [if_neg c58] at H
                      have c58b0 : decide (x7_4 < ((rd_L3 l0_3 x5_2).length : Int)) = false := decide_eq_false c58
                      clear c58
                      have H' := zA H
                      clear H
                      have hcz77_0 : wr.cell? ⟨gb262, 0, none⟩ = some (.int .i64 a0_0) := (blk_cell BK262.out 0).trans rfl
                      have hcz77_1 : wr.cell? ⟨gb262, 1, none⟩ = some (.slice A0_1 l0_1.length c0_1) := (blk_cell BK262.out 1).trans rfl
                      have hcz77_2 : wr.cell? ⟨gb262, 2, none⟩ = some (.slice (some ad295) l0_2.length c0_2) := (blk_cell BK262.out 2).trans rfl
                      have hcz77_3 : wr.cell? ⟨gb262, 3, none⟩ = some (.slice (some ad303) l0_3.length c0_3) := (blk_cell BK262.out 3).trans rfl
                      have hfz77_0 := blk_frozen BK262.out 0
                      have hfz77_1 := blk_frozen BK262.out 1
                      have hfz77_2 := blk_frozen BK262.out 2
                      have hfz77_3 := blk_frozen BK262.out 3
                      have p310 : 0 ≤ (x5_2 : Int) := of_decide_eq_true zq2
                      have q310 : x5_2 < (l0_3.length : Int) := of_decide_eq_true zq2
                      obtain ⟨ad310, A310_0, c310_0, e310, hx310_0, hl310_0, hi310_0⟩ := at_L3 HR0_3.out x5_2 p310 q310
                      obtain rfl : ad303 = ad310 := (by injection e310)
                      replace hx310_0 := (HB.out.cell (World.block_lt_of_cell? w _ hx310_0)).trans hx310_0
                      have HR310_0 := zA hi310_0
                      have HC310_0 := zA hl310_0
                      clear hi310_0 hl310_0
                      replace p310 := eq_true p310
                      replace q310 := eq_true q310
                      go_wp2
                      go_roundg k4
                      case measure => have := HK1.out; have := HK2.out; have := HJ35.out; have := HK4.out; omega
                      case rel => exact ⟨(x3_4), (wrap64 (x5_2 + 1)), zq4, H', ⟨by have := HK1.out; have := HK2.out; have := HJ35.out; have := HK4.out; omega⟩, ⟨zq10⟩, ⟨by (with_reducible repeat (first | refine blk_drewN ?_ _ | refine blk_drew ?_ | refine blk_alloc ?_ _)); exact BK262.out⟩, ⟨by repeat (first | (with_reducible first | exact HB.out | apply below_alloc | apply pw_below_drewN | apply below_drew1 | refine below_set ?_ GE262.out) | exact HB.out)⟩⟩
                    ·rw [if_neg c57] at H
                     exact absurd H zq12
                   ·rw [if_neg c56] at H
                    exact absurd H zq12
                ·rw [if_neg c48] at H
                 exact absurd H zq12
               ·rw [if_neg c46] at H
                exact absurd H zq12
              ·rw [if_neg c45] at H
               exact absurd H zq12
             ·rw [if_neg c44] at H
              exact absurd H zq12
          ·rw [if_neg c35] at H
           exact absurd H zq12
         ·rw [if_neg c34] at H
          have c34b0 : decide (x5_2 < (l0_2.length : Int)) = false := decide_eq_false c34
          clear c34
          obtain rfl := Option.some.inj H
          have hcz78_0 : wr.cell? ⟨gb262, 0, none⟩ = some (.int .i64 a0_0) := (blk_cell BK262.out 0).trans rfl
          have hcz78_1 : wr.cell? ⟨gb262, 1, none⟩ = some (.slice A0_1 l0_1.length c0_1) := (blk_cell BK262.out 1).trans rfl
          have hcz78_2 : wr.cell? ⟨gb262, 2, none⟩ = some (.slice A0_2 l0_2.length c0_2) := (blk_cell BK262.out 2).trans rfl
          have hcz78_3 : wr.cell? ⟨gb262, 3, none⟩ = some (.slice A0_3 l0_3.length c0_3) := (blk_cell BK262.out 3).trans rfl
          have hfz78_0 := blk_frozen BK262.out 0
          have hfz78_1 := blk_frozen BK262.out 1
          have hfz78_2 := blk_frozen BK262.out 2
          have hfz78_3 := blk_frozen BK262.out 3
          go_wp2
          go_ret
          exact ⟨_, zq9, zq10, by repeat (first | (with_reducible first | exact HB.out | apply below_alloc | apply pw_below_drewN | apply below_drew1 | refine below_set ?_ GE262.out) | exact HB.out)⟩
      ·rw [if_neg c29] at H
       exact absurd H zq12
  ·rw [if_neg c5] at H
   exact absurd H zq12
 ·rw [if_neg c3] at H
  exact absurd H zq12
def spec_l4checksum.l0 : Nat → List Int → Int → Int → Option (List Int)
 | 0, _, _, _ => none
 | k + 1, x0, x3, x4 => if x4 < (x0.length : Int) then (if 0 ≤ x4 then (spec_l4checksum.l0 k x0 (Int.tmod (wrap64 ((Go.bits .xor .i64 x3 (wrap64 (rd x0 x4))) * 16777619)) 4294967296) (wrap64 (x4 + 1))) else (none)) else (some (([(wrap64 (Int.tdiv x3 16777216)) % 256, (Int.tmod (wrap64 (Int.tdiv x3 65536)) 256) % 256, (Int.tmod (wrap64 (Int.tdiv x3 256)) 256) % 256, (Int.tmod x3 256) % 256] : List Int)))
def spec_l4checksum.f (k : Nat) (l0 : List Int) : Option (List Int) := spec_l4checksum.l0 k l0 2166136261 0
theorem spec_l4checksum.mono_l : ∀ k, (∀ y0 y1 y2, LeO (spec_l4checksum.l0 k y0 y1 y2) (spec_l4checksum.l0 (k + 1) y0 y1 y2))
 | 0 => fun _ _ _ r h => by simp [spec_l4checksum.l0] at h
 | k + 1 => by
  have ih0 := spec_l4checksum.mono_l k
  ·intro y0 y1 y2
   unfold spec_l4checksum.l0
   repeat' first
   | (with_reducible exact ih0 _ _ _)
   | (with_reducible exact LeO.refl _)
   | (with_reducible exact LeO.none _)
   | (with_reducible refine LeO.ite ?_ ?_)
   | (with_reducible refine LeO.bind ?_ (fun _ => ?_))
   | exact ih0 _ _ _
   | exact LeO.none _
   | refine LeO.ite ?_ ?_
   | refine LeO.bind ?_ (fun _ => ?_)
theorem spec_l4checksum.mono : ∀ a0 k, LeO (spec_l4checksum.f k a0) (spec_l4checksum.f (k + 1) a0) := by
 intro a0 k
 have ih0 := spec_l4checksum.mono_l k
 unfold spec_l4checksum.f
 repeat' first
   | (with_reducible exact ih0 _ _ _)
   | (with_reducible exact LeO.refl _)
   | (with_reducible exact LeO.none _)
   | (with_reducible refine LeO.ite ?_ ?_)
   | (with_reducible refine LeO.bind ?_ (fun _ => ?_))
   | exact ih0 _ _ _
   | exact LeO.none _
   | refine LeO.ite ?_ ?_
   | refine LeO.bind ?_ (fun _ => ?_)
set_option maxHeartbeats 8000000 in
set_option maxRecDepth 100000 in
theorem spec_l4checksum.calls (k : Nat) (A0 : Option Addr) (c0 : Nat) (l0 : List Int) (r : List Int) (w : World) (hr0 : Kd.C (Kd.int .u8) w A0 l0.length l0) (hc0 : l0.length ≤ c0) (h : spec_l4checksum.f k l0 = some r) :
  Calls Tryz.prog 60 #[.slice A0 l0.length c0] w fun e w' => ∃ v0_ : Value, e = .returned (v0_) ∧ Kd.R (Kd.int .u8) 5 w' w.heap.size (fun _ => True) v0_ r ∧ Below w.heap.size w w' := by
 have HR0 := zA hr0
 have HC0 := zA hc0
 clear hr0 hc0
 have HB := zA (Below.refl w.heap.size w)
 have H : (spec_l4checksum.l0 k l0 2166136261 0) = some r := h
 clear h
 have H' := zA H
 clear H
 go_enter Tryz.func60, Tryz.ntmps60
 go_wp2
 go_loopg [3, 4] k (fun kq v3 v4 w' => ∃ (x3_1 : Int) (x4_1 : Int), v3 = .int .i64 x3_1 ∧ v4 = .int .i64 x4_1 ∧ Aside0 (spec_l4checksum.l0 kq l0 x3_1 x4_1 = some r) ∧ Aside0 (kq ≤ k) ∧ Aside0 (Below w.heap.size w w'))
 case atStart => exact ⟨(2166136261), (0), zq4, zq4, H', ⟨Nat.le_refl _⟩, ⟨zq0⟩⟩
 case round =>
  clear H'
  obtain ⟨x3_1, x4_1, rfl, rfl, HA, HK1, HB⟩ := hrel
  cases gk with
  | zero => exact absurd HA.out (by simp [spec_l4checksum.l0])
  | succ k1 =>
   have H := HA.out
   clear HA
   simp only [spec_l4checksum.l0] at H
   by_cases c2 : x4_1 < (l0.length : Int)
   ·rw [if_pos c2] at H
    have c2b0 : decide (x4_1 < (l0.length : Int)) = true := decide_eq_true c2
    clear c2
    by_cases c3 : 0 ≤ x4_1
    ·rw [if_pos c3] at H
     have c3b0 : decide (0 ≤ x4_1) = true := decide_eq_true c3
     clear c3
     have H' := zA H
     clear H
     have p329 : 0 ≤ (x4_1 : Int) := of_decide_eq_true zq2
     have q329 : x4_1 < (l0.length : Int) := of_decide_eq_true zq2
     obtain ⟨ad329, e329, hx329_0⟩ := Kd.at_int HR0.out x4_1 p329 q329
     cases e329
     replace hx329_0 := (HB.out.cell (World.block_lt_of_cell? w _ hx329_0)).trans hx329_0
     replace p329 := eq_true p329
     replace q329 := eq_true q329
     go_wp2
     go_roundg k1
     case measure => have := HK1.out; omega
     case rel => exact ⟨(Int.tmod (wrap64 ((Go.bits .xor .i64 x3_1 (wrap64 (rd l0 x4_1))) * 16777619)) 4294967296), (wrap64 (x4_1 + 1)), zq4, zq4, H', ⟨zq33⟩, ⟨zq0⟩⟩
    ·rw [if_neg c3] at H
     exact absurd H zq12
   ·rw [if_neg c2] at H
    have c2b0 : decide (x4_1 < (l0.length : Int)) = false := decide_eq_false c2
    clear c2
    obtain ⟨y330, hy330⟩ : ∃ y_ : List Int, y_ = (([(wrap64 (Int.tdiv x3_1 16777216)) % 256, (Int.tmod (wrap64 (Int.tdiv x3_1 65536)) 256) % 256, (Int.tmod (wrap64 (Int.tdiv x3_1 256)) 256) % 256, (Int.tmod x3_1 256) % 256] : List Int)) := ⟨_, rfl⟩
    replace H : (some y330) = some r := by first | (rw [hy330]; with_reducible exact H) | (have H2_ := (Option.bind_some _ _).symm.trans H; rw [hy330]; with_reducible exact H2_) | (have H2_ := (Option.bind_some _ _).symm.trans H; with_reducible exact H2_) | with_reducible exact H | (rw [hy330]; exact H) | exact H
    have Ny330 := zA hy330
    clear hy330
    obtain rfl := Option.some.inj H
    go_wp2_with (first | ((with_reducible refine gate_dst (N := 34) rfl ?_); refine Kd.R_lit (Kd.int .u8) _ 5 ?hg (N := 34) ?hd (xs := ([(wrap64 (Int.tdiv x3_1 16777216)) % 256, (Int.tmod (wrap64 (Int.tdiv x3_1 65536)) 256) % 256, (Int.tmod (wrap64 (Int.tdiv x3_1 256)) 256) % 256, (Int.tmod x3_1 256) % 256] : List Int)) (inner := [.int .u8 ((wrap64 (Int.tdiv x3_1 16777216)) % 256), .int .u8 ((Int.tmod (wrap64 (Int.tdiv x3_1 65536)) 256) % 256), .int .u8 ((Int.tmod (wrap64 (Int.tdiv x3_1 256)) 256) % 256), .int .u8 ((Int.tmod x3_1 256) % 256)]) (ok := fun _ => True) (okp := fun _ => True) ?hr ?hp (fun _ hk => hk) trivial (Below.refl _ _) (Nat.le_refl _) zq12 ?_; (case hd => rfl); (case hg => rfl); (case hr => first | (go_simp; done) | (go_simp; rfl)); (case hp => exact (Reps.one (show Kd.M (Kd.int .u8) _ _ _ ((wrap64 (Int.tdiv x3_1 16777216)) % 256) [.int .u8 ((wrap64 (Int.tdiv x3_1 16777216)) % 256)] from rfl) (Reps.one (show Kd.M (Kd.int .u8) _ _ _ ((Int.tmod (wrap64 (Int.tdiv x3_1 65536)) 256) % 256) [.int .u8 ((Int.tmod (wrap64 (Int.tdiv x3_1 65536)) 256) % 256)] from rfl) (Reps.one (show Kd.M (Kd.int .u8) _ _ _ ((Int.tmod (wrap64 (Int.tdiv x3_1 256)) 256) % 256) [.int .u8 ((Int.tmod (wrap64 (Int.tdiv x3_1 256)) 256) % 256)] from rfl) (Reps.one (show Kd.M (Kd.int .u8) _ _ _ ((Int.tmod x3_1 256) % 256) [.int .u8 ((Int.tmod x3_1 256) % 256)] from rfl) (Reps.none _ _)))))); intro v331 w4 ho5 hb hg_ hnew_; clear hg_ hnew_; (first | rw [← Ny330.out] at ho5 | (simp only [Int.reduceToNat] at ho5; rw [← Ny330.out] at ho5)); have n0_ := zA (Kd.R_lower ho5 (below_size zq0)); have n1_ := zA (below_step zq0 hb); clear HB; have HO332 := n0_; have HB := n1_; clear n0_ n1_; clear hb ho5))
    go_ret
    exact ⟨_, zq9, by (with_reducible repeat (first | apply Kd.R_alloc | apply Kd.R_drewN | apply Kd.R_drew)); exact HO332.out, zq0⟩
def spec_l4encode.f (k : Nat) (a0_0 : Int) (l0_1 : List (List Int)) (l0_2 : List Int) (l0_3 : List (List Int)) : Option (List Int) := (spec_l4body.f k a0_0 l0_1 l0_2 l0_3).bind fun t334 => ((spec_l4checksum.f k t334).bind fun t337 => (if t334.length + t337.length < 140737488355328 then (some (t334 ++ t337)) else (none)))
theorem spec_l4encode.mono : ∀ a0 a1 a2 a3 k, LeO (spec_l4encode.f k a0 a1 a2 a3) (spec_l4encode.f (k + 1) a0 a1 a2 a3) := by
 intro a0 a1 a2 a3 k
 unfold spec_l4encode.f
 repeat' first
   | (with_reducible exact spec_l4body.mono _ _ _ _ _)
   | (with_reducible exact spec_l4checksum.mono _ _)
   | (with_reducible exact LeO.refl _)
   | (with_reducible exact LeO.none _)
   | (with_reducible refine LeO.ite ?_ ?_)
   | (with_reducible refine LeO.bind ?_ (fun _ => ?_))
   | exact spec_l4body.mono _ _ _ _ _
   | exact spec_l4checksum.mono _ _
   | exact LeO.none _
   | refine LeO.ite ?_ ?_
   | refine LeO.bind ?_ (fun _ => ?_)
set_option maxHeartbeats 8000000 in
set_option maxRecDepth 100000 in
theorem spec_l4encode.calls (k : Nat) (a0_0 : Int) (A0_1 : Option Addr) (c0_1 : Nat) (l0_1 : List (List Int)) (A0_2 : Option Addr) (c0_2 : Nat) (l0_2 : List Int) (A0_3 : Option Addr) (c0_3 : Nat) (l0_3 : List (List Int)) (r : List Int) (w : World) (hr0_1 : Kd.C (Kd.slice 5 (Kd.int .u8)) w A0_1 l0_1.length l0_1) (hc0_1 : l0_1.length ≤ c0_1) (hr0_2 : Kd.C (Kd.int .i64) w A0_2 l0_2.length l0_2) (hc0_2 : l0_2.length ≤ c0_2) (hr0_3 : Kd.C (Kd.slice 3 (Kd.int .i64)) w A0_3 l0_3.length l0_3) (hc0_3 : l0_3.length ≤ c0_3) (h : spec_l4encode.f k a0_0 l0_1 l0_2 l0_3 = some r) :
  Calls Tryz.prog 35 #[.agg #[.int .i64 a0_0, .slice A0_1 l0_1.length c0_1, .slice A0_2 l0_2.length c0_2, .slice A0_3 l0_3.length c0_3]] w fun e w' => ∃ v0_ : Value, e = .returned (v0_) ∧ Kd.R (Kd.int .u8) 5 w' w.heap.size (fun _ => True) v0_ r ∧ Below w.heap.size w w' := by
 have hu59 := Tryz.underlying59
 have HR0_1 := zA hr0_1
 have HC0_1 := zA hc0_1
 clear hr0_1 hc0_1
 have HR0_2 := zA hr0_2
 have HC0_2 := zA hc0_2
 clear hr0_2 hc0_2
 have HR0_3 := zA hr0_3
 have HC0_3 := zA hc0_3
 clear hr0_3 hc0_3
 have HB := zA (Below.refl w.heap.size w)
 have H : ((spec_l4body.f k a0_0 l0_1 l0_2 l0_3).bind fun t334 => ((spec_l4checksum.f k t334).bind fun t337 => (if t334.length + t337.length < 140737488355328 then (some (t334 ++ t337)) else (none)))) = some r := h
 clear h
 replace H := Option.bind_eq_some_iff.mp H
 obtain ⟨t334, A20, H⟩ := H
 replace H : ((spec_l4checksum.f k t334).bind fun t337 => (if t334.length + t337.length < 140737488355328 then (some (t334 ++ t337)) else (none))) = some r := H
 have A2 := zA A20
 clear A20
 replace H := Option.bind_eq_some_iff.mp H
 obtain ⟨t337, A30, H⟩ := H
 replace H : (if t334.length + t337.length < 140737488355328 then (some (t334 ++ t337)) else (none)) = some r := H
 have A3 := zA A30
 clear A30
 by_cases c4 : t334.length + t337.length < 140737488355328
 ·rw [if_pos c4] at H
  have LMc4 := zA c4
  clear c4
  obtain ⟨y340, hy340⟩ : ∃ y_ : List Int, y_ = (t334 ++ t337) := ⟨_, rfl⟩
  replace H : (some y340) = some r := by first | (rw [hy340]; with_reducible exact H) | (have H2_ := (Option.bind_some _ _).symm.trans H; rw [hy340]; with_reducible exact H2_) | (have H2_ := (Option.bind_some _ _).symm.trans H; with_reducible exact H2_) | with_reducible exact H | (rw [hy340]; exact H) | exact H
  have Ny340 := zA hy340
  clear hy340
  obtain rfl := Option.some.inj H
  go_enter Tryz.func35, Tryz.ntmps35
  go_wp2_with (first | ((with_reducible refine gate_dst (N := 1) rfl ?_); refine box_event ?hg (N := 1) ?hd (cs := #[.int .i64 a0_0, .slice A0_1 l0_1.length c0_1, .slice A0_2 l0_2.length c0_2, .slice A0_3 l0_3.length c0_3]) (t := 59) ?hr ?_; (case hd => rfl); (case hg => rfl); (case hr => first | (go_simp; done) | (go_simp; rfl)); intro gb333 hg w5 hbox hb; have n0_ := zA (below_step zq0 hb); have n1_ := zA (hbox); have n2_ := zA ((by rw [hg]; exact (below_size zq0) : w.heap.size ≤ gb333)); have n3_ := zA ((by rw [hg]; exact (below_size zq0) : w.heap.size ≤ gb333)); clear HB; have HB := n0_; have BK333 := n1_; have GW333 := n2_; have GE333 := n3_; clear n0_ n1_ n2_ n3_; clear hb hbox hg; have hcz6_0 : w5.cell? ⟨gb333, 0, none⟩ = some (.int .i64 a0_0) := (blk_cell BK333.out 0).trans rfl; have hcz6_1 : w5.cell? ⟨gb333, 1, none⟩ = some (.slice A0_1 l0_1.length c0_1) := (blk_cell BK333.out 1).trans rfl; have hcz6_2 : w5.cell? ⟨gb333, 2, none⟩ = some (.slice A0_2 l0_2.length c0_2) := (blk_cell BK333.out 2).trans rfl; have hcz6_3 : w5.cell? ⟨gb333, 3, none⟩ = some (.slice A0_3 l0_3.length c0_3) := (blk_cell BK333.out 3).trans rfl; have hfz6_0 := blk_frozen BK333.out 0; have hfz6_1 := blk_frozen BK333.out 1; have hfz6_2 := blk_frozen BK333.out 2; have hfz6_3 := blk_frozen BK333.out 3) | ((with_reducible refine gate_callee (f := 59) rfl ?_); refine goesL_ (some 5) rfl rfl Tryz.func59 zq5 rfl #[.agg #[.int .i64 a0_0, .slice A0_1 l0_1.length c0_1, .slice A0_2 l0_2.length c0_2, .slice A0_3 l0_3.length c0_3]] rfl zq6 ?_; (with_reducible refine (spec_l4body.calls k a0_0 _ _ l0_1 _ _ l0_2 _ _ l0_3 t334 _ ?side1 ?side2 ?side3 ?side4 ?side5 ?side6 A2.out).mono ?_); (case side1 => repeat (first | exact (Kd.C_below HR0_1.out HB.out) | (with_reducible refine Kd.C_alloc ?_ _) | (with_reducible refine Kd.C_drewN ?_ _) | (with_reducible refine Kd.C_drew ?_))); (case side2 => exact HC0_1.out); (case side3 => repeat (first | exact (Kd.C_below HR0_2.out HB.out) | (with_reducible refine Kd.C_alloc ?_ _) | (with_reducible refine Kd.C_drewN ?_ _) | (with_reducible refine Kd.C_drew ?_))); (case side4 => exact HC0_2.out); (case side5 => repeat (first | exact (Kd.C_below HR0_3.out HB.out) | (with_reducible refine Kd.C_alloc ?_ _) | (with_reducible refine Kd.C_drewN ?_ _) | (with_reducible refine Kd.C_drew ?_))); (case side6 => exact HC0_3.out); rintro e w7 ⟨v335, rfl, ho0, hb⟩; refine ⟨_, rfl, ?_⟩; have n0_ := zA (Kd.R_lower ho0 (below_size (by repeat (first | (with_reducible first | exact HB.out | apply below_alloc | apply pw_below_drewN | apply below_drew1 | refine below_set ?_ GE333.out) | exact HB.out)))); have n1_ := zA (blk_below (g := gb333) (o := .cells #[.int .i64 a0_0, .slice A0_1 l0_1.length c0_1, .slice A0_2 l0_2.length c0_2, .slice A0_3 l0_3.length c0_3] 59 (0, 0)) (by (with_reducible repeat (first | refine blk_drewN ?_ _ | refine blk_drew ?_ | refine blk_alloc ?_ _)); exact BK333.out) hb); have n2_ := zA (below_step (by repeat (first | (with_reducible first | exact HB.out | apply below_alloc | apply pw_below_drewN | apply below_drew1 | refine below_set ?_ GE333.out) | exact HB.out)) hb); clear BK333; clear HB; have HO336 := n0_; have BK333 := n1_; have HB := n2_; clear n0_ n1_ n2_; (try clear hb); (try clear hb2); (try clear hk); (try clear hi); (try clear ho0); obtain ⟨Ao8, co8, eo8⟩ := Kd.R_slice HO336.out; subst eo8) | ((with_reducible refine gate_callee (f := 60) rfl ?_); refine goesL_ (some 8) rfl rfl Tryz.func60 zq5 rfl #[.slice Ao8 t334.length co8] rfl zq6 ?_; (with_reducible refine (spec_l4checksum.calls k _ _ t334 t337 _ ?side1 ?side2 A3.out).mono ?_); (case side1 => repeat (first | exact (Kd.R_reads' HO336.out).2.2 | (with_reducible refine Kd.C_alloc ?_ _) | (with_reducible refine Kd.C_drewN ?_ _) | (with_reducible refine Kd.C_drew ?_))); (case side2 => exact (Kd.R_reads' HO336.out).2.1); rintro e w9 ⟨v338, rfl, ho0, hb⟩; refine ⟨_, rfl, ?_⟩; have n0_ := zA (Kd.R_elder' (by (with_reducible repeat (first | apply Kd.R_alloc | apply Kd.R_drewN | apply Kd.R_drew)); exact HO336.out) (Kd.R_base ho0) hb); have n1_ := zA (Kd.R_lower (Kd.R_new' ho0 (Kd.R_lt (by (with_reducible repeat (first | apply Kd.R_alloc | apply Kd.R_drewN | apply Kd.R_drew)); exact HO336.out))) (below_size (by repeat (first | (with_reducible first | exact HB.out | apply below_alloc | apply pw_below_drewN | apply below_drew1 | refine below_set ?_ GE333.out) | exact HB.out)))); have n2_ := zA (blk_below (g := gb333) (o := .cells #[.int .i64 a0_0, .slice A0_1 l0_1.length c0_1, .slice A0_2 l0_2.length c0_2, .slice A0_3 l0_3.length c0_3] 59 (0, 0)) (by (with_reducible repeat (first | refine blk_drewN ?_ _ | refine blk_drew ?_ | refine blk_alloc ?_ _)); exact BK333.out) hb); have n3_ := zA (below_step (by repeat (first | (with_reducible first | exact HB.out | apply below_alloc | apply pw_below_drewN | apply below_drew1 | refine below_set ?_ GE333.out) | exact HB.out)) hb); clear HO336; clear BK333; clear HB; have HO336 := n0_; have HO339 := n1_; have BK333 := n2_; have HB := n3_; clear n0_ n1_ n2_ n3_; (try clear hb); (try clear hb2); (try clear hk); (try clear hi); (try clear ho0); obtain ⟨Ao11, co11, eo11⟩ := Kd.R_slice HO339.out; subst eo11) | ((with_reducible refine gate_builtin (b := .append) (xs := #[.tmp 6, .tmp 8]) rfl ?_); at_builtin; refine Kd.R_append_rows (Kd.int .u8) (w0 := w) w.heap.size rfl (.tmp 6) (.tmp 8) 25 5 (.int .u8 0) 1 rfl Tryz.underlying25 info5 rfl zq15 zq1 (.slice Ao8 t334.length co8) t334 t337 _ _ _ (fun k_ => some k_ ≠ (.slice Ao11 t337.length co11 : Value).ownBlock) (fun _ => False) rfl rfl ?aO ?aR (fun _ _ h => h) (fun _ h => h.elim) ?aF ?aB ?aS ?aL ?_; (case aR => repeat (first | exact (Kd.R_reads' HO339.out).2.2 | (with_reducible refine Kd.C_alloc ?_ _) | (with_reducible refine Kd.C_drewN ?_ _) | (with_reducible refine Kd.C_drew ?_))); (case aB => exact (by repeat (first | (with_reducible first | exact HB.out | apply below_alloc | apply pw_below_drewN | apply below_drew1 | refine below_set ?_ GE333.out) | exact HB.out))); (case aF => exact (fun k_ hk => Kd.fresh' (Kd.R_lt (by (with_reducible repeat (first | apply Kd.R_alloc | apply Kd.R_drewN | apply Kd.R_drew)); exact HO339.out)) k_ hk)); (case aO => exact (by (with_reducible repeat (first | apply Kd.R_alloc | apply Kd.R_drewN | apply Kd.R_drew)); exact Kd.R_mono HO336.out (fun _ hk => hk.2))); (case aS => exact (below_size (by repeat (first | (with_reducible first | exact HB.out | apply below_alloc | apply pw_below_drewN | apply below_drew1 | refine below_set ?_ GE333.out) | exact HB.out)))); (case aL => have := LMc4.out; omega); intro v341 w10 ho hb hg hat; rw [← Ny340.out] at ho; have n0_ := zA (blk_grown (g := gb333) (o := .cells #[.int .i64 a0_0, .slice A0_1 l0_1.length c0_1, .slice A0_2 l0_2.length c0_2, .slice A0_3 l0_3.length c0_3] 59 (0, 0)) (by (with_reducible repeat (first | refine blk_drewN ?_ _ | refine blk_drew ?_ | refine blk_alloc ?_ _)); exact BK333.out) hg (Kd.R_ne HO336.out BK333.out zq15)); have n1_ := zA (Kd.R_after (ok := (fun _ => True)) (by (with_reducible repeat (first | apply Kd.R_alloc | apply Kd.R_drewN | apply Kd.R_drew)); exact HO339.out) hg hat); have n2_ := zA (hb); have n3_ := zA (ho); clear BK333; clear HO339; clear HB; clear HO336; have BK333 := n0_; have HO339 := n1_; have HB := n2_; have HO342 := n3_; clear n0_ n1_ n2_ n3_; clear ho hb hg hat))
  go_ret
  exact ⟨_, zq9, by (with_reducible repeat (first | apply Kd.R_alloc | apply Kd.R_drewN | apply Kd.R_drew)); exact Kd.R_mono HO342.out (fun _ hk => trivial), by repeat (first | (with_reducible first | exact HB.out | apply below_alloc | apply pw_below_drewN | apply below_drew1 | refine below_set ?_ GE333.out) | exact HB.out)⟩
 ·rw [if_neg c4] at H
  exact absurd H zq12
end Go.Proofs.YtmgmdnmfalepkaaGreat.L
