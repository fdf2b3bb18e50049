/- Parts of the proof (see the row's own text): Lenc. -/
import Derived.Test.YtmgmdnmfalepkaaG00
import Derived.Test.YtmgmdnmfalepkaaG4
namespace Go.Proofs.Ytmgmdnmfalepkaa.L
open Go.RowKit Go.Proofs.YtmgmdnmfalepkaaW.PrintWords Go.Proofs.YtmgmdnmfalepkaaW.PrintLast Go.Proofs.YtmgmdnmfalepkaaW.PrintMore
attribute [local go_sem] max2_int min2_int max_two min_two max_three min_three max_four min_four
set_option linter.unusedVariables false
set_option linter.unusedSimpArgs false
def spec_l4varint.f : Nat → Int → Option (List Int)
 | 0, _ => none
 | k + 1, a0 => if a0 < 128 then (some (([(a0) % 256] : List Int))) else ((some (([(wrap64 ((Int.tmod a0 128) + 128)) % 256] : List Int) : List Int)).bind fun y327 => ((spec_l4varint.f k (wrap64 (Int.tdiv a0 128))).bind fun t330 => (if y327.length + t330.length < 140737488355328 then (some (y327 ++ t330)) else (none))))
theorem spec_l4varint.mono_l : ∀ k, (∀ y0, LeO (spec_l4varint.f k y0) (spec_l4varint.f (k + 1) y0))
 | 0 => fun _ r h => by simp [spec_l4varint.f] at h
 | k + 1 => by
  have ih0 := spec_l4varint.mono_l k
  ·intro y0
   unfold spec_l4varint.f
   repeat' first
   | (with_reducible exact ih0 _)
   | (with_reducible exact LeO.refl _)
   | (with_reducible exact LeO.none _)
   | (with_reducible refine LeO.ite ?_ ?_)
   | (with_reducible refine LeO.bind ?_ (fun _ => ?_))
   | exact ih0 _
   | exact LeO.none _
   | refine LeO.ite ?_ ?_
   | refine LeO.bind ?_ (fun _ => ?_)
theorem spec_l4varint.mono : ∀ a0 k, LeO (spec_l4varint.f k a0) (spec_l4varint.f (k + 1) a0) := by
 intro a0 k
 have ih0 := spec_l4varint.mono_l k
 exact ih0 a0
set_option maxHeartbeats 8000000 in
set_option maxRecDepth 100000 in
theorem spec_l4varint.calls (k : Nat) : ∀ (a0 : Int) (r : List Int) (w : World) (h : spec_l4varint.f k a0 = some r),
  Calls Try.prog 155 #[.int .i64 a0] w fun e w' => ∃ v0_ : Value, e = .returned (v0_) ∧ Kd.R (Kd.int .u8) 5 w' w.heap.size (fun _ => True) v0_ r ∧ Below w.heap.size w w' := by
 induction k using Nat.strongRecOn with
 | _ k ih =>
 intro a0 r w h
 cases k with
 | zero => exact absurd h (by simp [spec_l4varint.f])
 | succ k =>
 simp only [spec_l4varint.f] at h
 have HB := zA (Below.refl w.heap.size w)
 have H : (if a0 < 128 then (some (([(a0) % 256] : List Int))) else ((some (([(wrap64 ((Int.tmod a0 128) + 128)) % 256] : List Int) : List Int)).bind fun y327 => ((spec_l4varint.f k (wrap64 (Int.tdiv a0 128))).bind fun t330 => (if y327.length + t330.length < 140737488355328 then (some (y327 ++ t330)) else (none))))) = some r := h
 clear h
 by_cases c2 : a0 < 128
 ·rw [if_pos c2] at H
  have c2b0 : decide (a0 < 128) = true := decide_eq_true c2
  clear c2
  obtain ⟨y324, hy324⟩ : ∃ y_ : List Int, y_ = (([(a0) % 256] : List Int)) := ⟨_, rfl⟩
  replace H : (some y324) = some r := by first | (rw [hy324]; with_reducible exact H) | (have H2_ := (Option.bind_some _ _).symm.trans H; rw [hy324]; with_reducible exact H2_) | (have H2_ := (Option.bind_some _ _).symm.trans H; with_reducible exact H2_) | with_reducible exact H | (rw [hy324]; exact H) | exact H
  have Ny324 := zA hy324
  clear hy324
  obtain rfl := Option.some.inj H
  go_enter Try.func155, Try.ntmps155
  go_wp2_with (first | ((with_reducible refine gate_dst (N := 8) rfl ?_); refine Kd.R_lit (Kd.int .u8) _ 5 ?hg (N := 8) ?hd (xs := ([(a0) % 256] : List Int)) (inner := [.int .u8 ((a0) % 256)]) (ok := fun _ => True) (okp := fun _ => True) ?hr ?hp (fun _ hk => hk) trivial (Below.refl _ _) (Nat.le_refl _) zq14 ?_; (case hd => rfl); (case hg => rfl); (case hr => first | (go_simp; done) | (go_simp; rfl)); (case hp => exact (Reps.one (show Kd.M (Kd.int .u8) _ _ _ ((a0) % 256) [.int .u8 ((a0) % 256)] from rfl) (Reps.none _ _))); intro v325 w3 ho4 hb hg_ hnew_; clear hg_ hnew_; (first | rw [← Ny324.out] at ho4 | (simp only [Int.reduceToNat] at ho4; rw [← Ny324.out] at ho4)); have n0_ := zA (Kd.R_lower ho4 (below_size zq0)); have n1_ := zA (below_step zq0 hb); clear HB; have HO326 := n0_; have HB := n1_; clear n0_ n1_; clear hb ho4))
  go_ret
  exact ⟨_, zq9, by (with_reducible repeat (first | apply Kd.R_alloc | apply Kd.R_drewN | apply Kd.R_drew)); exact HO326.out, zq0⟩
 ·rw [if_neg c2] at H
  have c2b0 : decide (a0 < 128) = false := decide_eq_false c2
  clear c2
  obtain ⟨y327, hy327⟩ : ∃ y_ : List Int, y_ = (([(wrap64 ((Int.tmod a0 128) + 128)) % 256] : List Int)) := ⟨_, rfl⟩
  replace H : ((spec_l4varint.f k (wrap64 (Int.tdiv a0 128))).bind fun t330 => (if y327.length + t330.length < 140737488355328 then (some (y327 ++ t330)) else (none))) = some r := by first | (rw [hy327]; with_reducible exact H) | (have H2_ := (Option.bind_some _ _).symm.trans H; rw [hy327]; with_reducible exact H2_) | (have H2_ := (Option.bind_some _ _).symm.trans H; with_reducible exact H2_) | with_reducible exact H | (rw [hy327]; exact H) | exact H
  have Ny327 := zA hy327
  clear hy327
  replace H := Option.bind_eq_some_iff.mp H
  obtain ⟨t330, A50, H⟩ := H
  replace H : (if y327.length + t330.length < 140737488355328 then (some (y327 ++ t330)) else (none)) = some r := H
  have A5 := zA A50
  clear A50
  by_cases c6 : y327.length + t330.length < 140737488355328
  ·rw [if_pos c6] at H
   have LMc6 := zA c6
   clear c6
   obtain ⟨y333, hy333⟩ : ∃ y_ : List Int, y_ = (y327 ++ t330) := ⟨_, rfl⟩
   replace H : (some y333) = some r := by first | (rw [hy333]; with_reducible exact H) | (have H2_ := (Option.bind_some _ _).symm.trans H; rw [hy333]; with_reducible exact H2_) | (have H2_ := (Option.bind_some _ _).symm.trans H; with_reducible exact H2_) | with_reducible exact H | (rw [hy333]; exact H) | exact H
   have Ny333 := zA hy333
   clear hy333
   obtain rfl := Option.some.inj H
   go_enter Try.func155, Try.ntmps155
   go_wp2_with (first | ((with_reducible refine gate_dst (N := 13) rfl ?_); refine Kd.R_lit (Kd.int .u8) _ 5 ?hg (N := 13) ?hd (xs := ([(wrap64 ((Int.tmod a0 128) + 128)) % 256] : List Int)) (inner := [.int .u8 ((wrap64 ((Int.tmod a0 128) + 128)) % 256)]) (ok := fun _ => True) (okp := fun _ => True) ?hr ?hp (fun _ hk => hk) trivial (Below.refl _ _) (Nat.le_refl _) zq14 ?_; (case hd => rfl); (case hg => rfl); (case hr => first | (go_simp; done) | (go_simp; rfl)); (case hp => exact (Reps.one (show Kd.M (Kd.int .u8) _ _ _ ((wrap64 ((Int.tmod a0 128) + 128)) % 256) [.int .u8 ((wrap64 ((Int.tmod a0 128) + 128)) % 256)] from rfl) (Reps.none _ _))); intro v328 w7 ho8 hb hg_ hnew_; clear hg_ hnew_; (first | rw [← Ny327.out] at ho8 | (simp only [Int.reduceToNat] at ho8; rw [← Ny327.out] at ho8)); have n0_ := zA (Kd.R_lower ho8 (below_size zq0)); have n1_ := zA (below_step zq0 hb); clear HB; have HO329 := n0_; have HB := n1_; clear n0_ n1_; clear hb ho8) | ((with_reducible refine gate_callee (f := 155) rfl ?_); refine goesL_ (some 17) rfl rfl Try.func155 zq12 rfl #[.int .i64 (wrap64 (Int.tdiv a0 128))] rfl zq2 ?_; (with_reducible refine (ih k zq3 (wrap64 (Int.tdiv a0 128)) t330 _ A5.out).mono ?_); rintro e w9 ⟨v331, rfl, ho0, hb⟩; refine ⟨_, rfl, ?_⟩; have n0_ := zA (Kd.R_elder' (by (with_reducible repeat (first | apply Kd.R_alloc | apply Kd.R_drewN | apply Kd.R_drew)); exact HO329.out) (Kd.R_base ho0) hb); have n1_ := zA (Kd.R_lower (Kd.R_new' ho0 (Kd.R_lt (by (with_reducible repeat (first | apply Kd.R_alloc | apply Kd.R_drewN | apply Kd.R_drew)); exact HO329.out))) (below_size zq0)); have n2_ := zA (below_step zq0 hb); clear HO329; clear HB; have HO329 := n0_; have HO332 := n1_; have HB := n2_; clear n0_ n1_ n2_; (try clear hb); (try clear hb2); (try clear hk); (try clear hi); (try clear ho0); obtain ⟨Ao11, co11, eo11⟩ := Kd.R_slice HO332.out; subst eo11) | ((with_reducible refine gate_builtin (b := .append) (xs := #[.tmp 14, .tmp 17]) rfl ?_); at_builtin; refine Kd.R_append_rows (Kd.int .u8) (w0 := w) w.heap.size rfl (.tmp 14) (.tmp 17) 33 5 (.int .u8 0) 1 rfl Try.underlying33 info5 rfl zq13 zq3 v328 y327 t330 _ _ _ (fun k_ => some k_ ≠ (.slice Ao11 t330.length co11 : Value).ownBlock) (fun _ => False) rfl rfl ?aO ?aR (fun _ _ h => h) (fun _ h => h.elim) ?aF ?aB ?aS ?aL ?_; (case aR => repeat (first | exact (Kd.R_reads' HO332.out).2.2 | (with_reducible refine Kd.C_alloc ?_ _) | (with_reducible refine Kd.C_drewN ?_ _) | (with_reducible refine Kd.C_drew ?_))); (case aB => exact zq0); (case aF => exact (fun k_ hk => Kd.fresh' (Kd.R_lt (by (with_reducible repeat (first | apply Kd.R_alloc | apply Kd.R_drewN | apply Kd.R_drew)); exact HO332.out)) k_ hk)); (case aO => exact (by (with_reducible repeat (first | apply Kd.R_alloc | apply Kd.R_drewN | apply Kd.R_drew)); exact Kd.R_mono HO329.out (fun _ hk => hk.2))); (case aS => exact (below_size zq0)); (case aL => have := LMc6.out; omega); intro v334 w10 ho hb hg hat; rw [← Ny333.out] at ho; have n0_ := zA (Kd.R_after (ok := (fun _ => True)) (by (with_reducible repeat (first | apply Kd.R_alloc | apply Kd.R_drewN | apply Kd.R_drew)); exact HO332.out) hg hat); have n1_ := zA (hb); have n2_ := zA (ho); clear HO332; clear HB; clear HO329; have HO332 := n0_; have HB := n1_; have HO335 := n2_; clear n0_ n1_ n2_; clear ho hb hg hat))
   go_ret
   exact ⟨_, zq9, by (with_reducible repeat (first | apply Kd.R_alloc | apply Kd.R_drewN | apply Kd.R_drew)); exact Kd.R_mono HO335.out (fun _ hk => trivial), zq0⟩
  ·rw [if_neg c6] at H
   exact absurd H zq14
mutual
def spec_l4body.l0 : Nat → List Int → Int → Int → List (List Int) → List Int → List (List Int) → Option (List Int)
 | 0, _, _, _, _, _, _ => none
 | k + 1, x3, x4, x337000, x337001, x337002, x337003 => if x4 < (x337001.length : Int) then (if 0 ≤ x4 then ((spec_l4varint.f k ((rd_L1 x337001 x4).length : Int)).bind fun t353 => (if x3.length + t353.length < 140737488355328 then ((some (x3 ++ t353 : List Int)).bind fun y356 => (if y356.length + (rd_L1 x337001 x4).length < 140737488355328 then (spec_l4body.l0 k (y356 ++ (rd_L1 x337001 x4)) (wrap64 (x4 + 1)) x337000 x337001 x337002 x337003) else (none))) else (none))) else (none)) else ((spec_l4varint.f k (x337002.length : Int)).bind fun t363 => (if x3.length + t363.length < 140737488355328 then (spec_l4body.l1 k (x3 ++ t363) 0 x337000 x337001 x337002 x337003) else (none)))
def spec_l4body.l1 : Nat → List Int → Int → Int → List (List Int) → List Int → List (List Int) → Option (List Int)
 | 0, _, _, _, _, _, _ => none
 | k + 1, x3, x5, x337000, x337001, x337002, x337003 => if x5 < (x337002.length : Int) then (if 0 ≤ x5 then (if x5 > 0 then (if 0 ≤ (wrap64 (x5 - 1)) then (if (wrap64 (x5 - 1)) < (x337002.length : Int) then (spec_l4body.j2 k x3 x5 (wrap64 ((rd x337002 x5) - (rd x337002 (wrap64 (x5 - 1))))) x337000 x337001 x337002 x337003) else (none)) else (none)) else (spec_l4body.j2 k x3 x5 (rd x337002 x5) x337000 x337001 x337002 x337003)) else (none)) else (some x3)
def spec_l4body.j2 : Nat → List Int → Int → Int → Int → List (List Int) → List Int → List (List Int) → Option (List Int)
 | 0, _, _, _, _, _, _, _ => none
 | k + 1, x3, x5, x6, x337000, x337001, x337002, x337003 => (spec_l4varint.f k x6).bind fun t371 => (if x3.length + t371.length < 140737488355328 then ((some (x3 ++ t371 : List Int)).bind fun y374 => (if 0 ≤ x5 then (if x5 < (x337003.length : Int) then ((spec_l4varint.f k ((rd_L3 x337003 x5).length : Int)).bind fun t378 => (if y374.length + t378.length < 140737488355328 then (spec_l4body.l2 k (y374 ++ t378) x5 0 x337000 x337001 x337002 x337003) else (none))) else (none)) else (none))) else (none))
def spec_l4body.l2 : Nat → List Int → Int → Int → Int → List (List Int) → List Int → List (List Int) → Option (List Int)
 | 0, _, _, _, _, _, _, _ => none
 | k + 1, x3, x5, x7, x337000, x337001, x337002, x337003 => if 0 ≤ x5 then (if x5 < (x337003.length : Int) then (if x7 < ((rd_L3 x337003 x5).length : Int) then (if x7 > 0 then (if 0 ≤ (wrap64 (x7 - 1)) then (if (wrap64 (x7 - 1)) < ((rd_L3 x337003 x5).length : Int) then (if 0 ≤ x7 then ((spec_l4varint.f k (wrap64 ((rd (rd_L3 x337003 x5) x7) - (rd (rd_L3 x337003 x5) (wrap64 (x7 - 1)))))).bind fun t389 => (if x3.length + t389.length < 140737488355328 then (spec_l4body.l2 k (x3 ++ t389) x5 (wrap64 (x7 + 1)) x337000 x337001 x337002 x337003) else (none))) else (none)) else (none)) else (none)) else (if 0 ≤ x7 then ((spec_l4varint.f k (wrap64 ((rd (rd_L3 x337003 x5) x7) - x337000))).bind fun t397 => (if x3.length + t397.length < 140737488355328 then (spec_l4body.l2 k (x3 ++ t397) x5 (wrap64 (x7 + 1)) x337000 x337001 x337002 x337003) else (none))) else (none))) else (spec_l4body.l1 k x3 (wrap64 (x5 + 1)) x337000 x337001 x337002 x337003)) else (none)) else (none)
end
def spec_l4body.f (k : Nat) (a0_0 : Int) (l0_1 : List (List Int)) (l0_2 : List Int) (l0_3 : List (List Int)) : Option (List Int) := (some (([84, 71] : List Int) : List Int)).bind fun y337 => ((spec_l4varint.f k a0_0).bind fun t340 => (if y337.length + t340.length < 140737488355328 then ((some (y337 ++ t340 : List Int)).bind fun y343 => ((spec_l4varint.f k (l0_1.length : Int)).bind fun t346 => (if y343.length + t346.length < 140737488355328 then (spec_l4body.l0 k (y343 ++ t346) 0 a0_0 l0_1 l0_2 l0_3) else (none)))) else (none)))
theorem spec_l4body.mono_l : ∀ k, (∀ y0 y1 y2 y3 y4 y5, LeO (spec_l4body.l0 k y0 y1 y2 y3 y4 y5) (spec_l4body.l0 (k + 1) y0 y1 y2 y3 y4 y5)) ∧ (∀ y0 y1 y2 y3 y4 y5, LeO (spec_l4body.l1 k y0 y1 y2 y3 y4 y5) (spec_l4body.l1 (k + 1) y0 y1 y2 y3 y4 y5)) ∧ (∀ y0 y1 y2 y3 y4 y5 y6, LeO (spec_l4body.j2 k y0 y1 y2 y3 y4 y5 y6) (spec_l4body.j2 (k + 1) y0 y1 y2 y3 y4 y5 y6)) ∧ (∀ y0 y1 y2 y3 y4 y5 y6, LeO (spec_l4body.l2 k y0 y1 y2 y3 y4 y5 y6) (spec_l4body.l2 (k + 1) y0 y1 y2 y3 y4 y5 y6))
 | 0 => ⟨fun _ _ _ _ _ _ r h => by simp [spec_l4body.l0] at h, fun _ _ _ _ _ _ r h => by simp [spec_l4body.l1] at h, fun _ _ _ _ _ _ _ r h => by simp [spec_l4body.j2] at h, fun _ _ _ _ _ _ _ r h => by simp [spec_l4body.l2] at h⟩
 | k + 1 => by
  obtain ⟨ih0, ih1, ih2, ih3⟩ := spec_l4body.mono_l k
  refine ⟨?_, ?_, ?_, ?_⟩
  ·intro y0 y1 y2 y3 y4 y5
   unfold spec_l4body.l0
   repeat' first
   | (with_reducible exact ih0 _ _ _ _ _ _)
   | (with_reducible exact ih1 _ _ _ _ _ _)
   | (with_reducible exact ih2 _ _ _ _ _ _ _)
   | (with_reducible exact ih3 _ _ _ _ _ _ _)
   | (with_reducible exact spec_l4varint.mono _ _)
   | (with_reducible exact LeO.refl _)
   | (with_reducible exact LeO.none _)
   | (with_reducible refine LeO.ite ?_ ?_)
   | (with_reducible refine LeO.bind ?_ (fun _ => ?_))
   | exact ih0 _ _ _ _ _ _
   | exact ih1 _ _ _ _ _ _
   | exact ih2 _ _ _ _ _ _ _
   | exact ih3 _ _ _ _ _ _ _
   | exact spec_l4varint.mono _ _
   | exact LeO.none _
   | refine LeO.ite ?_ ?_
   | refine LeO.bind ?_ (fun _ => ?_)
  ·intro y0 y1 y2 y3 y4 y5
   unfold spec_l4body.l1
   repeat' first
   | (with_reducible exact ih0 _ _ _ _ _ _)
   | (with_reducible exact ih1 _ _ _ _ _ _)
   | (with_reducible exact ih2 _ _ _ _ _ _ _)
   | (with_reducible exact ih3 _ _ _ _ _ _ _)
   | (with_reducible exact spec_l4varint.mono _ _)
   | (with_reducible exact LeO.refl _)
   | (with_reducible exact LeO.none _)
   | (with_reducible refine LeO.ite ?_ ?_)
   | (with_reducible refine LeO.bind ?_ (fun _ => ?_))
   | exact ih0 _ _ _ _ _ _
   | exact ih1 _ _ _ _ _ _
   | exact ih2 _ _ _ _ _ _ _
   | exact ih3 _ _ _ _ _ _ _
   | exact spec_l4varint.mono _ _
   | exact LeO.none _
   | refine LeO.ite ?_ ?_
   | refine LeO.bind ?_ (fun _ => ?_)
  ·intro y0 y1 y2 y3 y4 y5 y6
   unfold spec_l4body.j2
   repeat' first
   | (with_reducible exact ih0 _ _ _ _ _ _)
   | (with_reducible exact ih1 _ _ _ _ _ _)
   | (with_reducible exact ih2 _ _ _ _ _ _ _)
   | (with_reducible exact ih3 _ _ _ _ _ _ _)
   | (with_reducible exact spec_l4varint.mono _ _)
   | (with_reducible exact LeO.refl _)
   | (with_reducible exact LeO.none _)
   | (with_reducible refine LeO.ite ?_ ?_)
   | (with_reducible refine LeO.bind ?_ (fun _ => ?_))
   | exact ih0 _ _ _ _ _ _
   | exact ih1 _ _ _ _ _ _
   | exact ih2 _ _ _ _ _ _ _
   | exact ih3 _ _ _ _ _ _ _
   | exact spec_l4varint.mono _ _
   | exact LeO.none _
   | refine LeO.ite ?_ ?_
   | refine LeO.bind ?_ (fun _ => ?_)
  ·intro y0 y1 y2 y3 y4 y5 y6
   unfold spec_l4body.l2
   repeat' first
   | (with_reducible exact ih0 _ _ _ _ _ _)
   | (with_reducible exact ih1 _ _ _ _ _ _)
   | (with_reducible exact ih2 _ _ _ _ _ _ _)
   | (with_reducible exact ih3 _ _ _ _ _ _ _)
   | (with_reducible exact spec_l4varint.mono _ _)
   | (with_reducible exact LeO.refl _)
   | (with_reducible exact LeO.none _)
   | (with_reducible refine LeO.ite ?_ ?_)
   | (with_reducible refine LeO.bind ?_ (fun _ => ?_))
   | exact ih0 _ _ _ _ _ _
   | exact ih1 _ _ _ _ _ _
   | exact ih2 _ _ _ _ _ _ _
   | exact ih3 _ _ _ _ _ _ _
   | exact spec_l4varint.mono _ _
   | exact LeO.none _
   | refine LeO.ite ?_ ?_
   | refine LeO.bind ?_ (fun _ => ?_)
theorem spec_l4body.mono : ∀ a0 a1 a2 a3 k, LeO (spec_l4body.f k a0 a1 a2 a3) (spec_l4body.f (k + 1) a0 a1 a2 a3) := by
 intro a0 a1 a2 a3 k
 obtain ⟨ih0, ih1, ih2, ih3⟩ := spec_l4body.mono_l k
 unfold spec_l4body.f
 repeat' first
   | (with_reducible exact ih0 _ _ _ _ _ _)
   | (with_reducible exact ih1 _ _ _ _ _ _)
   | (with_reducible exact ih2 _ _ _ _ _ _ _)
   | (with_reducible exact ih3 _ _ _ _ _ _ _)
   | (with_reducible exact spec_l4varint.mono _ _)
   | (with_reducible exact LeO.refl _)
   | (with_reducible exact LeO.none _)
   | (with_reducible refine LeO.ite ?_ ?_)
   | (with_reducible refine LeO.bind ?_ (fun _ => ?_))
   | exact ih0 _ _ _ _ _ _
   | exact ih1 _ _ _ _ _ _
   | exact ih2 _ _ _ _ _ _ _
   | exact ih3 _ _ _ _ _ _ _
   | exact spec_l4varint.mono _ _
   | exact LeO.none _
   | refine LeO.ite ?_ ?_
   | refine LeO.bind ?_ (fun _ => ?_)
set_option maxHeartbeats 8000000 in
set_option maxRecDepth 100000 in
theorem spec_l4body.calls (k : Nat) (a0_0 : Int) (A0_1 : Option Addr) (c0_1 : Nat) (l0_1 : List (List Int)) (A0_2 : Option Addr) (c0_2 : Nat) (l0_2 : List Int) (A0_3 : Option Addr) (c0_3 : Nat) (l0_3 : List (List Int)) (r : List Int) (w : World) (hr0_1 : Kd.C (Kd.slice 5 (Kd.int .u8)) w A0_1 l0_1.length l0_1) (hc0_1 : l0_1.length ≤ c0_1) (hr0_2 : Kd.C (Kd.int .i64) w A0_2 l0_2.length l0_2) (hc0_2 : l0_2.length ≤ c0_2) (hr0_3 : Kd.C (Kd.slice 3 (Kd.int .i64)) w A0_3 l0_3.length l0_3) (hc0_3 : l0_3.length ≤ c0_3) (h : spec_l4body.f k a0_0 l0_1 l0_2 l0_3 = some r) :
  Calls Try.prog 120 #[.agg #[.int .i64 a0_0, .slice A0_1 l0_1.length c0_1, .slice A0_2 l0_2.length c0_2, .slice A0_3 l0_3.length c0_3]] w fun e w' => ∃ v0_ : Value, e = .returned (v0_) ∧ Kd.R (Kd.int .u8) 5 w' w.heap.size (fun _ => True) v0_ r ∧ Below w.heap.size w w' := by
 have hu50 := Try.underlying50
 have HR0_1 := zA hr0_1
 have HC0_1 := zA hc0_1
 clear hr0_1 hc0_1
 have HR0_2 := zA hr0_2
 have HC0_2 := zA hc0_2
 clear hr0_2 hc0_2
 have HR0_3 := zA hr0_3
 have HC0_3 := zA hc0_3
 clear hr0_3 hc0_3
 have HB := zA (Below.refl w.heap.size w)
 have H : ((some (([84, 71] : List Int) : List Int)).bind fun y337 => ((spec_l4varint.f k a0_0).bind fun t340 => (if y337.length + t340.length < 140737488355328 then ((some (y337 ++ t340 : List Int)).bind fun y343 => ((spec_l4varint.f k (l0_1.length : Int)).bind fun t346 => (if y343.length + t346.length < 140737488355328 then (spec_l4body.l0 k (y343 ++ t346) 0 a0_0 l0_1 l0_2 l0_3) else (none)))) else (none)))) = some r := h
 clear h
 obtain ⟨y337, hy337⟩ : ∃ y_ : List Int, y_ = (([84, 71] : List Int)) := ⟨_, rfl⟩
 replace H : ((spec_l4varint.f k a0_0).bind fun t340 => (if y337.length + t340.length < 140737488355328 then ((some (y337 ++ t340 : List Int)).bind fun y343 => ((spec_l4varint.f k (l0_1.length : Int)).bind fun t346 => (if y343.length + t346.length < 140737488355328 then (spec_l4body.l0 k (y343 ++ t346) 0 a0_0 l0_1 l0_2 l0_3) else (none)))) else (none))) = some r := by first | (rw [hy337]; with_reducible exact H) | (have H2_ := (Option.bind_some _ _).symm.trans H; rw [hy337]; with_reducible exact H2_) | (have H2_ := (Option.bind_some _ _).symm.trans H; with_reducible exact H2_) | with_reducible exact H | (rw [hy337]; exact H) | exact H
 have Ny337 := zA hy337
 clear hy337
 replace H := Option.bind_eq_some_iff.mp H
 obtain ⟨t340, A20, H⟩ := H
 replace H : (if y337.length + t340.length < 140737488355328 then ((some (y337 ++ t340 : List Int)).bind fun y343 => ((spec_l4varint.f k (l0_1.length : Int)).bind fun t346 => (if y343.length + t346.length < 140737488355328 then (spec_l4body.l0 k (y343 ++ t346) 0 a0_0 l0_1 l0_2 l0_3) else (none)))) else (none)) = some r := H
 have A2 := zA A20
 clear A20
 by_cases c3 : y337.length + t340.length < 140737488355328
 ·rw [if_pos c3] at H
  have LMc3 := zA c3
  clear c3
  obtain ⟨y343, hy343⟩ : ∃ y_ : List Int, y_ = (y337 ++ t340) := ⟨_, rfl⟩
  replace H : ((spec_l4varint.f k (l0_1.length : Int)).bind fun t346 => (if y343.length + t346.length < 140737488355328 then (spec_l4body.l0 k (y343 ++ t346) 0 a0_0 l0_1 l0_2 l0_3) else (none))) = some r := by first | (rw [hy343]; with_reducible exact H) | (have H2_ := (Option.bind_some _ _).symm.trans H; rw [hy343]; with_reducible exact H2_) | (have H2_ := (Option.bind_some _ _).symm.trans H; with_reducible exact H2_) | with_reducible exact H | (rw [hy343]; exact H) | exact H
  have Ny343 := zA hy343
  clear hy343
  replace H := Option.bind_eq_some_iff.mp H
  obtain ⟨t346, A40, H⟩ := H
  replace H : (if y343.length + t346.length < 140737488355328 then (spec_l4body.l0 k (y343 ++ t346) 0 a0_0 l0_1 l0_2 l0_3) else (none)) = some r := H
  have A4 := zA A40
  clear A40
  by_cases c5 : y343.length + t346.length < 140737488355328
  ·rw [if_pos c5] at H
   have LMc5 := zA c5
   clear c5
   obtain ⟨y349, hy349⟩ : ∃ y_ : List Int, y_ = (y343 ++ t346) := ⟨_, rfl⟩
   replace H : (spec_l4body.l0 k y349 0 a0_0 l0_1 l0_2 l0_3) = some r := by first | (rw [hy349]; with_reducible exact H) | (have H2_ := (Option.bind_some _ _).symm.trans H; rw [hy349]; with_reducible exact H2_) | (have H2_ := (Option.bind_some _ _).symm.trans H; with_reducible exact H2_) | with_reducible exact H | (rw [hy349]; exact H) | exact H
   have Ny349 := zA hy349
   clear hy349
   have H' := zA H
   clear H
   go_enter Try.func120, Try.ntmps120
   go_wp2_with (first | ((with_reducible refine gate_dst (N := 1) rfl ?_); refine box_event ?hg (N := 1) ?hd (cs := #[.int .i64 a0_0, .slice A0_1 l0_1.length c0_1, .slice A0_2 l0_2.length c0_2, .slice A0_3 l0_3.length c0_3]) (t := 50) ?hr ?_; (case hd => rfl); (case hg => rfl); (case hr => first | (go_simp; done) | (go_simp; rfl)); intro gb336 hg w6 hbox hb; have n0_ := zA (below_step zq0 hb); have n1_ := zA (hbox); have n2_ := zA ((by rw [hg]; exact (below_size zq0) : w.heap.size ≤ gb336)); have n3_ := zA ((by rw [hg]; exact (below_size zq0) : w.heap.size ≤ gb336)); clear HB; have HB := n0_; have BK336 := n1_; have GW336 := n2_; have GE336 := n3_; clear n0_ n1_ n2_ n3_; clear hb hbox hg) | ((with_reducible refine gate_dst (N := 9) rfl ?_); refine Kd.R_lit (Kd.int .u8) _ 5 ?hg (N := 9) ?hd (xs := ([84, 71] : List Int)) (inner := [.int .u8 84, .int .u8 71]) (ok := fun _ => True) (okp := fun _ => True) ?hr ?hp (fun _ hk => hk) trivial (Below.refl _ _) (Nat.le_refl _) zq14 ?_; (case hd => rfl); (case hg => rfl); (case hr => first | (go_simp; done) | (go_simp; rfl)); (case hp => exact (Reps.one (show Kd.M (Kd.int .u8) _ _ _ 84 [.int .u8 84] from rfl) (Reps.one (show Kd.M (Kd.int .u8) _ _ _ 71 [.int .u8 71] from rfl) (Reps.none _ _)))); intro v338 w7 ho8 hb hg_ hnew_; clear hg_ hnew_; (first | rw [← Ny337.out] at ho8 | (simp only [Int.reduceToNat] at ho8; rw [← Ny337.out] at ho8)); have n0_ := zA (Kd.R_lower ho8 (below_size (by repeat (first | (with_reducible first | exact HB.out | apply below_alloc | apply pw_below_drewN | apply below_drew1 | refine below_set ?_ GE336.out) | exact HB.out)))); have n1_ := zA (blk_below (g := gb336) (o := .cells #[.int .i64 a0_0, .slice A0_1 l0_1.length c0_1, .slice A0_2 l0_2.length c0_2, .slice A0_3 l0_3.length c0_3] 50 (0, 0)) (by (with_reducible repeat (first | refine blk_drewN ?_ _ | refine blk_drew ?_ | refine blk_alloc ?_ _)); exact BK336.out) hb); have n2_ := zA (below_step (by repeat (first | (with_reducible first | exact HB.out | apply below_alloc | apply pw_below_drewN | apply below_drew1 | refine below_set ?_ GE336.out) | exact HB.out)) hb); clear BK336; clear HB; have HO339 := n0_; have BK336 := n1_; have HB := n2_; clear n0_ n1_ n2_; clear hb ho8; have hcz9_0 : w7.cell? ⟨gb336, 0, none⟩ = some (.int .i64 a0_0) := (blk_cell BK336.out 0).trans rfl; have hcz9_1 : w7.cell? ⟨gb336, 1, none⟩ = some (.slice A0_1 l0_1.length c0_1) := (blk_cell BK336.out 1).trans rfl; have hcz9_2 : w7.cell? ⟨gb336, 2, none⟩ = some (.slice A0_2 l0_2.length c0_2) := (blk_cell BK336.out 2).trans rfl; have hcz9_3 : w7.cell? ⟨gb336, 3, none⟩ = some (.slice A0_3 l0_3.length c0_3) := (blk_cell BK336.out 3).trans rfl; have hfz9_0 := blk_frozen BK336.out 0; have hfz9_1 := blk_frozen BK336.out 1; have hfz9_2 := blk_frozen BK336.out 2; have hfz9_3 := blk_frozen BK336.out 3) | ((with_reducible refine gate_callee (f := 155) rfl ?_); refine goesL_ (some 13) rfl rfl Try.func155 zq12 rfl #[.int .i64 a0_0] rfl zq2 ?_; (with_reducible refine (spec_l4varint.calls k a0_0 t340 _ A2.out).mono ?_); rintro e w10 ⟨v341, rfl, ho0, hb⟩; refine ⟨_, rfl, ?_⟩; have n0_ := zA (Kd.R_elder' (by (with_reducible repeat (first | apply Kd.R_alloc | apply Kd.R_drewN | apply Kd.R_drew)); exact HO339.out) (Kd.R_base ho0) hb); have n1_ := zA (Kd.R_lower (Kd.R_new' ho0 (Kd.R_lt (by (with_reducible repeat (first | apply Kd.R_alloc | apply Kd.R_drewN | apply Kd.R_drew)); exact HO339.out))) (below_size (by repeat (first | (with_reducible first | exact HB.out | apply below_alloc | apply pw_below_drewN | apply below_drew1 | refine below_set ?_ GE336.out) | exact HB.out)))); have n2_ := zA (blk_below (g := gb336) (o := .cells #[.int .i64 a0_0, .slice A0_1 l0_1.length c0_1, .slice A0_2 l0_2.length c0_2, .slice A0_3 l0_3.length c0_3] 50 (0, 0)) (by (with_reducible repeat (first | refine blk_drewN ?_ _ | refine blk_drew ?_ | refine blk_alloc ?_ _)); exact BK336.out) hb); have n3_ := zA (below_step (by repeat (first | (with_reducible first | exact HB.out | apply below_alloc | apply pw_below_drewN | apply below_drew1 | refine below_set ?_ GE336.out) | exact HB.out)) hb); clear HO339; clear BK336; clear HB; have HO339 := n0_; have HO342 := n1_; have BK336 := n2_; have HB := n3_; clear n0_ n1_ n2_ n3_; (try clear hb); (try clear hb2); (try clear hk); (try clear hi); (try clear ho0); obtain ⟨Ao12, co12, eo12⟩ := Kd.R_slice HO342.out; subst eo12) | ((with_reducible refine gate_builtin (b := .append) (xs := #[.tmp 10, .tmp 13]) rfl ?_); at_builtin; refine Kd.R_append_rows (Kd.int .u8) (w0 := w) w.heap.size rfl (.tmp 10) (.tmp 13) 33 5 (.int .u8 0) 1 rfl Try.underlying33 info5 rfl zq13 zq3 v338 y337 t340 _ _ _ (fun k_ => some k_ ≠ (.slice Ao12 t340.length co12 : Value).ownBlock) (fun _ => False) rfl rfl ?aO ?aR (fun _ _ h => h) (fun _ h => h.elim) ?aF ?aB ?aS ?aL ?_; (case aR => repeat (first | exact (Kd.R_reads' HO342.out).2.2 | (with_reducible refine Kd.C_alloc ?_ _) | (with_reducible refine Kd.C_drewN ?_ _) | (with_reducible refine Kd.C_drew ?_))); (case aB => exact (by repeat (first | (with_reducible first | exact HB.out | apply below_alloc | apply pw_below_drewN | apply below_drew1 | refine below_set ?_ GE336.out) | exact HB.out))); (case aF => exact (fun k_ hk => Kd.fresh' (Kd.R_lt zq31) k_ hk)); (case aO => exact (by (with_reducible repeat (first | apply Kd.R_alloc | apply Kd.R_drewN | apply Kd.R_drew)); exact Kd.R_mono HO339.out (fun _ hk => hk.2))); (case aS => exact (below_size (by repeat (first | (with_reducible first | exact HB.out | apply below_alloc | apply pw_below_drewN | apply below_drew1 | refine below_set ?_ GE336.out) | exact HB.out)))); (case aL => have := LMc3.out; omega); intro v344 w11 ho hb hg hat; rw [← Ny343.out] at ho; have n0_ := zA (blk_grown (g := gb336) (o := .cells #[.int .i64 a0_0, .slice A0_1 l0_1.length c0_1, .slice A0_2 l0_2.length c0_2, .slice A0_3 l0_3.length c0_3] 50 (0, 0)) (by (with_reducible repeat (first | refine blk_drewN ?_ _ | refine blk_drew ?_ | refine blk_alloc ?_ _)); exact BK336.out) hg (Kd.R_ne HO339.out BK336.out zq13)); have n1_ := zA (Kd.R_after (ok := (fun _ => True)) zq31 hg hat); have n2_ := zA (hb); have n3_ := zA (ho); clear BK336; clear HO342; clear HB; clear HO339; have BK336 := n0_; have HO342 := n1_; have HB := n2_; have HO345 := n3_; clear n0_ n1_ n2_ n3_; clear ho hb hg hat; have hcz13_0 : w11.cell? ⟨gb336, 0, none⟩ = some (.int .i64 a0_0) := (blk_cell BK336.out 0).trans rfl; have hcz13_1 : w11.cell? ⟨gb336, 1, none⟩ = some (.slice A0_1 l0_1.length c0_1) := (blk_cell BK336.out 1).trans rfl; have hcz13_2 : w11.cell? ⟨gb336, 2, none⟩ = some (.slice A0_2 l0_2.length c0_2) := (blk_cell BK336.out 2).trans rfl; have hcz13_3 : w11.cell? ⟨gb336, 3, none⟩ = some (.slice A0_3 l0_3.length c0_3) := (blk_cell BK336.out 3).trans rfl; have hfz13_0 := blk_frozen BK336.out 0; have hfz13_1 := blk_frozen BK336.out 1; have hfz13_2 := blk_frozen BK336.out 2; have hfz13_3 := blk_frozen BK336.out 3) | ((with_reducible refine gate_callee (f := 155) rfl ?_); refine goesL_ (some 19) rfl rfl Try.func155 zq12 rfl #[.int .i64 (l0_1.length : Int)] rfl zq2 ?_; (with_reducible refine (spec_l4varint.calls k (l0_1.length : Int) t346 _ A4.out).mono ?_); rintro e w14 ⟨v347, rfl, ho0, hb⟩; refine ⟨_, rfl, ?_⟩; have n0_ := zA (Kd.R_elder' zq31 (Kd.R_base ho0) hb); have n1_ := zA (Kd.R_elder' zq49 (Kd.R_base ho0) hb); have n2_ := zA (Kd.R_lower (Kd.R_new' (Kd.R_new' ho0 (Kd.R_lt zq31)) (Kd.R_lt zq49)) (below_size (by repeat (first | (with_reducible first | exact HB.out | apply below_alloc | apply pw_below_drewN | apply below_drew1 | refine below_set ?_ GE336.out) | exact HB.out)))); have n3_ := zA (blk_below (g := gb336) (o := .cells #[.int .i64 a0_0, .slice A0_1 l0_1.length c0_1, .slice A0_2 l0_2.length c0_2, .slice A0_3 l0_3.length c0_3] 50 (0, 0)) (by (with_reducible repeat (first | refine blk_drewN ?_ _ | refine blk_drew ?_ | refine blk_alloc ?_ _)); exact BK336.out) hb); have n4_ := zA (below_step (by repeat (first | (with_reducible first | exact HB.out | apply below_alloc | apply pw_below_drewN | apply below_drew1 | refine below_set ?_ GE336.out) | exact HB.out)) hb); clear HO342; clear HO345; clear BK336; clear HB; have HO342 := n0_; have HO345 := n1_; have HO348 := n2_; have BK336 := n3_; have HB := n4_; clear n0_ n1_ n2_ n3_ n4_; (try clear hb); (try clear hb2); (try clear hk); (try clear hi); (try clear ho0); obtain ⟨Ao16, co16, eo16⟩ := Kd.R_slice HO348.out; subst eo16) | ((with_reducible refine gate_builtin (b := .append) (xs := #[.tmp 15, .tmp 19]) rfl ?_); at_builtin; refine Kd.R_append_rows (Kd.int .u8) (w0 := w) w.heap.size rfl (.tmp 15) (.tmp 19) 33 5 (.int .u8 0) 1 rfl Try.underlying33 info5 rfl zq13 zq3 v344 y343 t346 _ _ _ (fun k_ => some k_ ≠ (.slice Ao12 t340.length co12 : Value).ownBlock ∧ some k_ ≠ (.slice Ao16 t346.length co16 : Value).ownBlock) (fun _ => False) rfl rfl ?aO ?aR (fun _ _ h => h) (fun _ h => h.elim) ?aF ?aB ?aS ?aL ?_; (case aR => repeat (first | exact (Kd.R_reads' HO348.out).2.2 | (with_reducible refine Kd.C_alloc ?_ _) | (with_reducible refine Kd.C_drewN ?_ _) | (with_reducible refine Kd.C_drew ?_))); (case aB => exact (by repeat (first | (with_reducible first | exact HB.out | apply below_alloc | apply pw_below_drewN | apply below_drew1 | refine below_set ?_ GE336.out) | exact HB.out))); (case aF => exact (fun k_ hk => ⟨Kd.fresh' (Kd.R_lt zq31) k_ hk, Kd.fresh' (Kd.R_lt (by (with_reducible repeat (first | apply Kd.R_alloc | apply Kd.R_drewN | apply Kd.R_drew)); exact HO348.out)) k_ hk⟩)); (case aO => exact zq49); (case aS => exact (below_size (by repeat (first | (with_reducible first | exact HB.out | apply below_alloc | apply pw_below_drewN | apply below_drew1 | refine below_set ?_ GE336.out) | exact HB.out)))); (case aL => have := LMc5.out; omega); intro v350 w15 ho hb hg hat; rw [← Ny349.out] at ho; have n0_ := zA (blk_grown (g := gb336) (o := .cells #[.int .i64 a0_0, .slice A0_1 l0_1.length c0_1, .slice A0_2 l0_2.length c0_2, .slice A0_3 l0_3.length c0_3] 50 (0, 0)) (by (with_reducible repeat (first | refine blk_drewN ?_ _ | refine blk_drew ?_ | refine blk_alloc ?_ _)); exact BK336.out) hg (Kd.R_ne HO345.out BK336.out zq13)); have n1_ := zA (Kd.R_after (ok := (fun k_ => some k_ ≠ (.slice Ao16 t346.length co16 : Value).ownBlock)) (by (with_reducible repeat (first | apply Kd.R_alloc | apply Kd.R_drewN | apply Kd.R_drew)); exact Kd.R_mono HO342.out (fun _ hk => ⟨hk.2, hk.1.2⟩)) hg hat); have n2_ := zA (Kd.R_after (ok := (fun k_ => some k_ ≠ (.slice Ao12 t340.length co12 : Value).ownBlock)) (by (with_reducible repeat (first | apply Kd.R_alloc | apply Kd.R_drewN | apply Kd.R_drew)); exact Kd.R_mono HO348.out (fun _ hk => ⟨hk.1.2, hk.2⟩)) hg hat); have n3_ := zA (hb); have n4_ := zA (ho); clear BK336; clear HO342; clear HO348; clear HB; clear HO345; have BK336 := n0_; have HO342 := n1_; have HO348 := n2_; have HB := n3_; have HO351 := n4_; clear n0_ n1_ n2_ n3_ n4_; clear ho hb hg hat))
   go_loopg [3, 4] k (fun kq v3 v4 w' => ∃ (x3_1 : List Int) (x4_1 : Int), v4 = .int .i64 x4_1 ∧ Aside0 (spec_l4body.l0 kq x3_1 x4_1 a0_0 l0_1 l0_2 l0_3 = some r) ∧ Aside0 (kq ≤ k) ∧ Aside0 (Kd.R (Kd.int .u8) 5 w' w.heap.size (fun _ => True) v3 x3_1) ∧ Aside0 (w'.heap[gb336]? = some (.cells #[.int .i64 a0_0, (.slice A0_1 l0_1.length c0_1), (.slice A0_2 l0_2.length c0_2), (.slice A0_3 l0_3.length c0_3)] 50 (0, 0))) ∧ Aside0 (Below w.heap.size w w'))
   case atStart => exact ⟨(y349), (0), zq6, H', ⟨Nat.le_refl _⟩, ⟨by (with_reducible repeat (first | apply Kd.R_alloc | apply Kd.R_drewN | apply Kd.R_drew)); exact Kd.R_mono HO351.out (fun _ hk => trivial)⟩, ⟨by (with_reducible repeat (first | refine blk_drewN ?_ _ | refine blk_drew ?_ | refine blk_alloc ?_ _)); exact BK336.out⟩, ⟨by repeat (first | (with_reducible first | exact HB.out | apply below_alloc | apply pw_below_drewN | apply below_drew1 | refine below_set ?_ GE336.out) | exact HB.out)⟩⟩
   case round =>
    clear H'
    try clear c1
    try clear p2
    try clear c3
    try clear c5
    try clear c12
    try clear c15
    try clear hcz13_0
    try clear hcz13_1
    try clear hcz13_2
    try clear hcz13_3
    try clear hcz9_0
    try clear hcz9_1
    try clear hcz9_2
    try clear hcz9_3
    try clear hfz13_0
    try clear hfz13_1
    try clear hfz13_2
    try clear hfz13_3
    try clear hfz9_0
    try clear hfz9_1
    try clear hfz9_2
    try clear hfz9_3
    obtain ⟨x3_1, x4_1, rfl, HA, HK1, HO_3, BK336, HB⟩ := hrel
    cases gk with
    | zero => exact absurd HA.out (by simp [spec_l4body.l0])
    | succ k1 =>
     have H := HA.out
     clear HA
     simp only [spec_l4body.l0] at H
     by_cases c17 : x4_1 < (l0_1.length : Int)
     ·rw [if_pos c17] at H
      have c17b0 : decide (x4_1 < (l0_1.length : Int)) = true := decide_eq_true c17
      clear c17
      by_cases c18 : 0 ≤ x4_1
      ·rw [if_pos c18] at H
       have c18b0 : decide (0 ≤ x4_1) = true := decide_eq_true c18
       clear c18
       replace H := Option.bind_eq_some_iff.mp H
       obtain ⟨t353, A190, H⟩ := H
       replace H : (if x3_1.length + t353.length < 140737488355328 then ((some (x3_1 ++ t353 : List Int)).bind fun y356 => (if y356.length + (rd_L1 l0_1 x4_1).length < 140737488355328 then (spec_l4body.l0 k1 (y356 ++ (rd_L1 l0_1 x4_1)) (wrap64 (x4_1 + 1)) a0_0 l0_1 l0_2 l0_3) else (none))) else (none)) = some r := H
       have A19 := zA A190
       clear A190
       by_cases c20 : x3_1.length + t353.length < 140737488355328
       ·rw [if_pos c20] at H
        have LMc20 := zA c20
        clear c20
        obtain ⟨y356, hy356⟩ : ∃ y_ : List Int, y_ = (x3_1 ++ t353) := ⟨_, rfl⟩
        replace H : (if y356.length + (rd_L1 l0_1 x4_1).length < 140737488355328 then (spec_l4body.l0 k1 (y356 ++ (rd_L1 l0_1 x4_1)) (wrap64 (x4_1 + 1)) a0_0 l0_1 l0_2 l0_3) else (none)) = some r := by first | (rw [hy356]; with_reducible exact H) | (have H2_ := (Option.bind_some _ _).symm.trans H; rw [hy356]; with_reducible exact H2_) | (have H2_ := (Option.bind_some _ _).symm.trans H; with_reducible exact H2_) | with_reducible exact H | (rw [hy356]; exact H) | exact H
        have Ny356 := zA hy356
        clear hy356
        by_cases c21 : y356.length + (rd_L1 l0_1 x4_1).length < 140737488355328
        ·rw [if_pos c21] at H
         have LMc21 := zA c21
         clear c21
         obtain ⟨y360, hy360⟩ : ∃ y_ : List Int, y_ = (y356 ++ (rd_L1 l0_1 x4_1)) := ⟨_, rfl⟩
         replace H : (spec_l4body.l0 k1 y360 (wrap64 (x4_1 + 1)) a0_0 l0_1 l0_2 l0_3) = some r := by first | (rw [hy360]; with_reducible exact H) | (have H2_ := (Option.bind_some _ _).symm.trans H; rw [hy360]; with_reducible exact H2_) | (have H2_ := (Option.bind_some _ _).symm.trans H; with_reducible exact H2_) | with_reducible exact H | (rw [hy360]; exact H) | exact H
         have Ny360 := zA hy360
         clear hy360
         have H' := zA H
         clear H
         have hcz22_0 : wr.cell? ⟨gb336, 0, none⟩ = some (.int .i64 a0_0) := (blk_cell BK336.out 0).trans rfl
         have hcz22_1 : wr.cell? ⟨gb336, 1, none⟩ = some (.slice A0_1 l0_1.length c0_1) := (blk_cell BK336.out 1).trans rfl
         have hcz22_2 : wr.cell? ⟨gb336, 2, none⟩ = some (.slice A0_2 l0_2.length c0_2) := (blk_cell BK336.out 2).trans rfl
         have hcz22_3 : wr.cell? ⟨gb336, 3, none⟩ = some (.slice A0_3 l0_3.length c0_3) := (blk_cell BK336.out 3).trans rfl
         have hfz22_0 := blk_frozen BK336.out 0
         have hfz22_1 := blk_frozen BK336.out 1
         have hfz22_2 := blk_frozen BK336.out 2
         have hfz22_3 := blk_frozen BK336.out 3
         have p352 : 0 ≤ (x4_1 : Int) := of_decide_eq_true zq4
         have q352 : x4_1 < (l0_1.length : Int) := of_decide_eq_true zq4
         obtain ⟨ad352, A352_0, c352_0, e352, hx352_0, hl352_0, hi352_0⟩ := at_L1 HR0_1.out x4_1 p352 q352
         cases e352
         replace hx352_0 := (HB.out.cell (World.block_lt_of_cell? w _ hx352_0)).trans hx352_0
         have HR352_0 := zA hi352_0
         have HC352_0 := zA hl352_0
         clear hi352_0 hl352_0
         replace p352 := eq_true p352
         replace q352 := eq_true q352
         go_wp2_with (first | ((with_reducible refine gate_callee (f := 155) rfl ?_); refine goesL_ (some 35) rfl rfl Try.func155 zq12 rfl #[.int .i64 ((rd_L1 l0_1 x4_1).length : Int)] rfl zq2 ?_; (with_reducible refine (spec_l4varint.calls k1 ((rd_L1 l0_1 x4_1).length : Int) t353 _ A19.out).mono ?_); rintro e w23 ⟨v354, rfl, ho0, hb⟩; refine ⟨_, rfl, ?_⟩; have n0_ := zA (Kd.R_elder' zq15 (Kd.R_base ho0) hb); have n1_ := zA (Kd.R_lower (Kd.R_new' ho0 (Kd.R_lt zq15)) (below_size (by repeat (first | (with_reducible first | exact HB.out | apply below_alloc | apply pw_below_drewN | apply below_drew1 | refine below_set ?_ GE336.out) | exact HB.out)))); have n2_ := zA (blk_below (g := gb336) (o := .cells #[.int .i64 a0_0, .slice (some ad352) l0_1.length c0_1, .slice A0_2 l0_2.length c0_2, .slice A0_3 l0_3.length c0_3] 50 (0, 0)) (by (with_reducible repeat (first | refine blk_drewN ?_ _ | refine blk_drew ?_ | refine blk_alloc ?_ _)); exact BK336.out) hb); have n3_ := zA (below_step (by repeat (first | (with_reducible first | exact HB.out | apply below_alloc | apply pw_below_drewN | apply below_drew1 | refine below_set ?_ GE336.out) | exact HB.out)) hb); clear HO_3; clear BK336; clear HB; have HO_3 := n0_; have HO355 := n1_; have BK336 := n2_; have HB := n3_; clear n0_ n1_ n2_ n3_; (try clear hb); (try clear hb2); (try clear hk); (try clear hi); (try clear ho0); obtain ⟨Ao25, co25, eo25⟩ := Kd.R_slice HO355.out; subst eo25) | ((with_reducible refine gate_builtin (b := .append) (xs := #[.tmp 28, .tmp 35]) rfl ?_); at_builtin; refine Kd.R_append_rows (Kd.int .u8) (w0 := w) w.heap.size rfl (.tmp 28) (.tmp 35) 33 5 (.int .u8 0) 1 rfl Try.underlying33 info5 rfl zq13 zq3 u3 x3_1 t353 _ _ _ (fun k_ => some k_ ≠ (.slice Ao25 t353.length co25 : Value).ownBlock) (fun _ => False) rfl rfl ?aO ?aR (fun _ _ h => h) (fun _ h => h.elim) ?aF ?aB ?aS ?aL ?_; (case aR => repeat (first | exact (Kd.R_reads' HO355.out).2.2 | (with_reducible refine Kd.C_alloc ?_ _) | (with_reducible refine Kd.C_drewN ?_ _) | (with_reducible refine Kd.C_drew ?_))); (case aB => exact (by repeat (first | (with_reducible first | exact HB.out | apply below_alloc | apply pw_below_drewN | apply below_drew1 | refine below_set ?_ GE336.out) | exact HB.out))); (case aF => exact (fun k_ hk => Kd.fresh' (Kd.R_lt zq38) k_ hk)); (case aO => exact zq24); (case aS => exact (below_size (by repeat (first | (with_reducible first | exact HB.out | apply below_alloc | apply pw_below_drewN | apply below_drew1 | refine below_set ?_ GE336.out) | exact HB.out)))); (case aL => have := LMc20.out; omega); intro v357 w24 ho hb hg hat; rw [← Ny356.out] at ho; have n0_ := zA (blk_grown (g := gb336) (o := .cells #[.int .i64 a0_0, .slice (some ad352) l0_1.length c0_1, .slice A0_2 l0_2.length c0_2, .slice A0_3 l0_3.length c0_3] 50 (0, 0)) (by (with_reducible repeat (first | refine blk_drewN ?_ _ | refine blk_drew ?_ | refine blk_alloc ?_ _)); exact BK336.out) hg (Kd.R_ne HO_3.out BK336.out zq13)); have n1_ := zA (Kd.R_after (ok := (fun _ => True)) zq38 hg hat); have n2_ := zA (hb); have n3_ := zA (ho); clear BK336; clear HO355; clear HB; clear HO_3; have BK336 := n0_; have HO355 := n1_; have HB := n2_; have HO358 := n3_; clear n0_ n1_ n2_ n3_; clear ho hb hg hat; have hcz26_0 : w24.cell? ⟨gb336, 0, none⟩ = some (.int .i64 a0_0) := (blk_cell BK336.out 0).trans rfl; have hcz26_1 : w24.cell? ⟨gb336, 1, none⟩ = some (.slice (some ad352) l0_1.length c0_1) := (blk_cell BK336.out 1).trans rfl; have hcz26_2 : w24.cell? ⟨gb336, 2, none⟩ = some (.slice A0_2 l0_2.length c0_2) := (blk_cell BK336.out 2).trans rfl; have hcz26_3 : w24.cell? ⟨gb336, 3, none⟩ = some (.slice A0_3 l0_3.length c0_3) := (blk_cell BK336.out 3).trans rfl; have hfz26_0 := blk_frozen BK336.out 0; have hfz26_1 := blk_frozen BK336.out 1; have hfz26_2 := blk_frozen BK336.out 2; have hfz26_3 := blk_frozen BK336.out 3; have p359 : 0 ≤ (x4_1 : Int) := of_decide_eq_true zq4; have q359 : x4_1 < (l0_1.length : Int) := of_decide_eq_true zq4; obtain ⟨ad359, A359_0, c359_0, e359, hx359_0, hl359_0, hi359_0⟩ := at_L1 HR0_1.out x4_1 p359 q359; obtain rfl : ad352 = ad359 := (by injection e359); replace hx359_0 := (HB.out.cell (World.block_lt_of_cell? w _ hx359_0)).trans hx359_0; have HR359_0 := zA hi359_0; have HC359_0 := zA hl359_0; clear hi359_0 hl359_0; replace p359 := eq_true p359; replace q359 := eq_true q359) | ((with_reducible refine gate_builtin (b := .append) (xs := #[.tmp 37, .tmp 42]) rfl ?_); at_builtin; refine Kd.R_append_rows (Kd.int .u8) (w0 := w) w.heap.size rfl (.tmp 37) (.tmp 42) 33 5 (.int .u8 0) 1 rfl Try.underlying33 info5 rfl zq13 zq3 v357 y356 (rd_L1 l0_1 x4_1) _ _ _ (fun k_ => some k_ ≠ (.slice Ao25 t353.length co25 : Value).ownBlock) (fun _ => False) rfl rfl ?aO ?aR (fun _ _ h => h) (fun _ h => h.elim) ?aF ?aB ?aS ?aL ?_; (case aR => repeat (first | exact (Kd.C_below HR359_0.out HB.out) | (with_reducible refine Kd.C_alloc ?_ _) | (with_reducible refine Kd.C_drewN ?_ _) | (with_reducible refine Kd.C_drew ?_))); (case aB => exact (by repeat (first | (with_reducible first | exact HB.out | apply below_alloc | apply pw_below_drewN | apply below_drew1 | refine below_set ?_ GE336.out) | exact HB.out))); (case aF => exact (fun k_ hk => Kd.fresh' (Kd.R_lt zq38) k_ hk)); (case aO => exact (by (with_reducible repeat (first | apply Kd.R_alloc | apply Kd.R_drewN | apply Kd.R_drew)); exact HO358.out)); (case aS => exact (below_size (by repeat (first | (with_reducible first | exact HB.out | apply below_alloc | apply pw_below_drewN | apply below_drew1 | refine below_set ?_ GE336.out) | exact HB.out)))); (case aL => have := LMc21.out; omega); intro v361 w27 ho hb hg hat; rw [← Ny360.out] at ho; have n0_ := zA (blk_grown (g := gb336) (o := .cells #[.int .i64 a0_0, .slice (some ad352) l0_1.length c0_1, .slice A0_2 l0_2.length c0_2, .slice A0_3 l0_3.length c0_3] 50 (0, 0)) (by (with_reducible repeat (first | refine blk_drewN ?_ _ | refine blk_drew ?_ | refine blk_alloc ?_ _)); exact BK336.out) hg (Kd.R_ne HO358.out BK336.out zq13)); have n1_ := zA (Kd.R_after (ok := (fun _ => True)) zq38 hg hat); have n2_ := zA (hb); have n3_ := zA (ho); clear BK336; clear HO355; clear HB; clear HO358; have BK336 := n0_; have HO355 := n1_; have HB := n2_; have HO362 := n3_; clear n0_ n1_ n2_ n3_; clear ho hb hg hat))
         go_roundg k1
         case measure => have := HK1.out; omega
         case rel => exact ⟨(y360), (wrap64 (x4_1 + 1)), zq6, H', ⟨zq39⟩, ⟨by (with_reducible repeat (first | apply Kd.R_alloc | apply Kd.R_drewN | apply Kd.R_drew)); exact Kd.R_mono HO362.out (fun _ hk => trivial)⟩, ⟨by (with_reducible repeat (first | refine blk_drewN ?_ _ | refine blk_drew ?_ | refine blk_alloc ?_ _)); exact BK336.out⟩, ⟨by repeat (first | (with_reducible first | exact HB.out | apply below_alloc | apply pw_below_drewN | apply below_drew1 | refine below_set ?_ GE336.out) | exact HB.out)⟩⟩
        ·rw [if_neg c21] at H
         exact absurd H zq14
       ·rw [if_neg c20] at H
        exact absurd H zq14
      ·rw [if_neg c18] at H
       exact absurd H zq14
     ·rw [if_neg c17] at H
      have c17b0 : decide (x4_1 < (l0_1.length : Int)) = false := decide_eq_false c17
      clear c17
      replace H := Option.bind_eq_some_iff.mp H
      obtain ⟨t363, A280, H⟩ := H
      replace H : (if x3_1.length + t363.length < 140737488355328 then (spec_l4body.l1 k1 (x3_1 ++ t363) 0 a0_0 l0_1 l0_2 l0_3) else (none)) = some r := H
      have A28 := zA A280
      clear A280
      by_cases c29 : x3_1.length + t363.length < 140737488355328
      ·rw [if_pos c29] at H
       have LMc29 := zA c29
       clear c29
       obtain ⟨y366, hy366⟩ : ∃ y_ : List Int, y_ = (x3_1 ++ t363) := ⟨_, rfl⟩
       replace H : (spec_l4body.l1 k1 y366 0 a0_0 l0_1 l0_2 l0_3) = some r := by first | (rw [hy366]; with_reducible exact H) | (have H2_ := (Option.bind_some _ _).symm.trans H; rw [hy366]; with_reducible exact H2_) | (have H2_ := (Option.bind_some _ _).symm.trans H; with_reducible exact H2_) | with_reducible exact H | (rw [hy366]; exact H) | exact H
       have Ny366 := zA hy366
       clear hy366
       have H' := zA H
       clear H
       have hcz30_0 : wr.cell? ⟨gb336, 0, none⟩ = some (.int .i64 a0_0) := (blk_cell BK336.out 0).trans rfl
       have hcz30_1 : wr.cell? ⟨gb336, 1, none⟩ = some (.slice A0_1 l0_1.length c0_1) := (blk_cell BK336.out 1).trans rfl
       have hcz30_2 : wr.cell? ⟨gb336, 2, none⟩ = some (.slice A0_2 l0_2.length c0_2) := (blk_cell BK336.out 2).trans rfl
       have hcz30_3 : wr.cell? ⟨gb336, 3, none⟩ = some (.slice A0_3 l0_3.length c0_3) := (blk_cell BK336.out 3).trans rfl
       have hfz30_0 := blk_frozen BK336.out 0
       have hfz30_1 := blk_frozen BK336.out 1
       have hfz30_2 := blk_frozen BK336.out 2
       have hfz30_3 := blk_frozen BK336.out 3
       go_wp2_with (first | ((with_reducible refine gate_callee (f := 155) rfl ?_); refine goesL_ (some 48) rfl rfl Try.func155 zq12 rfl #[.int .i64 (l0_2.length : Int)] rfl zq2 ?_; (with_reducible refine (spec_l4varint.calls k1 (l0_2.length : Int) t363 _ A28.out).mono ?_); rintro e w31 ⟨v364, rfl, ho0, hb⟩; refine ⟨_, rfl, ?_⟩; have n0_ := zA (Kd.R_elder' zq15 (Kd.R_base ho0) hb); have n1_ := zA (Kd.R_lower (Kd.R_new' ho0 (Kd.R_lt zq15)) (below_size (by repeat (first | (with_reducible first | exact HB.out | apply below_alloc | apply pw_below_drewN | apply below_drew1 | refine below_set ?_ GE336.out) | exact HB.out)))); have n2_ := zA (blk_below (g := gb336) (o := .cells #[.int .i64 a0_0, .slice A0_1 l0_1.length c0_1, .slice A0_2 l0_2.length c0_2, .slice A0_3 l0_3.length c0_3] 50 (0, 0)) (by (with_reducible repeat (first | refine blk_drewN ?_ _ | refine blk_drew ?_ | refine blk_alloc ?_ _)); exact BK336.out) hb); have n3_ := zA (below_step (by repeat (first | (with_reducible first | exact HB.out | apply below_alloc | apply pw_below_drewN | apply below_drew1 | refine below_set ?_ GE336.out) | exact HB.out)) hb); clear HO_3; clear BK336; clear HB; have HO_3 := n0_; have HO365 := n1_; have BK336 := n2_; have HB := n3_; clear n0_ n1_ n2_ n3_; (try clear hb); (try clear hb2); (try clear hk); (try clear hi); (try clear ho0); obtain ⟨Ao33, co33, eo33⟩ := Kd.R_slice HO365.out; subst eo33) | ((with_reducible refine gate_builtin (b := .append) (xs := #[.tmp 44, .tmp 48]) rfl ?_); at_builtin; refine Kd.R_append_rows (Kd.int .u8) (w0 := w) w.heap.size rfl (.tmp 44) (.tmp 48) 33 5 (.int .u8 0) 1 rfl Try.underlying33 info5 rfl zq13 zq3 u3 x3_1 t363 _ _ _ (fun k_ => some k_ ≠ (.slice Ao33 t363.length co33 : Value).ownBlock) (fun _ => False) rfl rfl ?aO ?aR (fun _ _ h => h) (fun _ h => h.elim) ?aF ?aB ?aS ?aL ?_; (case aR => repeat (first | exact (Kd.R_reads' HO365.out).2.2 | (with_reducible refine Kd.C_alloc ?_ _) | (with_reducible refine Kd.C_drewN ?_ _) | (with_reducible refine Kd.C_drew ?_))); (case aB => exact (by repeat (first | (with_reducible first | exact HB.out | apply below_alloc | apply pw_below_drewN | apply below_drew1 | refine below_set ?_ GE336.out) | exact HB.out))); (case aF => exact (fun k_ hk => Kd.fresh' (Kd.R_lt (by (with_reducible repeat (first | apply Kd.R_alloc | apply Kd.R_drewN | apply Kd.R_drew)); exact HO365.out)) k_ hk)); (case aO => exact zq24); (case aS => exact (below_size (by repeat (first | (with_reducible first | exact HB.out | apply below_alloc | apply pw_below_drewN | apply below_drew1 | refine below_set ?_ GE336.out) | exact HB.out)))); (case aL => have := LMc29.out; omega); intro v367 w32 ho hb hg hat; rw [← Ny366.out] at ho; have n0_ := zA (blk_grown (g := gb336) (o := .cells #[.int .i64 a0_0, .slice A0_1 l0_1.length c0_1, .slice A0_2 l0_2.length c0_2, .slice A0_3 l0_3.length c0_3] 50 (0, 0)) (by (with_reducible repeat (first | refine blk_drewN ?_ _ | refine blk_drew ?_ | refine blk_alloc ?_ _)); exact BK336.out) hg (Kd.R_ne HO_3.out BK336.out zq13)); have n1_ := zA (Kd.R_after (ok := (fun _ => True)) (by (with_reducible repeat (first | apply Kd.R_alloc | apply Kd.R_drewN | apply Kd.R_drew)); exact HO365.out) hg hat); have n2_ := zA (hb); have n3_ := zA (ho); clear BK336; clear HO365; clear HB; clear HO_3; have BK336 := n0_; have HO365 := n1_; have HB := n2_; have HO368 := n3_; clear n0_ n1_ n2_ n3_; clear ho hb hg hat))
       go_loopg [3, 5] k1 (fun kq v3 v5 w' => ∃ (x3_2 : List Int) (x5_2 : Int), v5 = .int .i64 x5_2 ∧ Aside0 (spec_l4body.l1 kq x3_2 x5_2 a0_0 l0_1 l0_2 l0_3 = some r) ∧ Aside0 (kq ≤ k1) ∧ Aside0 (Kd.R (Kd.int .u8) 5 w' w.heap.size (fun _ => True) v3 x3_2) ∧ Aside0 (w'.heap[gb336]? = some (.cells #[.int .i64 a0_0, (.slice A0_1 l0_1.length c0_1), (.slice A0_2 l0_2.length c0_2), (.slice A0_3 l0_3.length c0_3)] 50 (0, 0))) ∧ Aside0 (Below w.heap.size w w'))
       case atStart => exact ⟨(y366), (0), zq6, H', ⟨Nat.le_refl _⟩, ⟨by (with_reducible repeat (first | apply Kd.R_alloc | apply Kd.R_drewN | apply Kd.R_drew)); exact Kd.R_mono HO368.out (fun _ hk => trivial)⟩, ⟨by (with_reducible repeat (first | refine blk_drewN ?_ _ | refine blk_drew ?_ | refine blk_alloc ?_ _)); exact BK336.out⟩, ⟨by repeat (first | (with_reducible first | exact HB.out | apply below_alloc | apply pw_below_drewN | apply below_drew1 | refine below_set ?_ GE336.out) | exact HB.out)⟩⟩
       case round =>
        clear H'
        try clear c1
        try clear c2
        try clear p2
        try clear c3
        try clear p3
        try clear q3
        try clear hx3
        try clear c5
        try clear p6
        try clear c12
        try clear c15
        try clear c17
        try clear c17b0
        try clear c18
        try clear c18b0
        try clear c20
        try clear c21
        try clear c29
        try clear hcz13_0
        try clear hcz13_1
        try clear hcz13_2
        try clear hcz13_3
        try clear hcz22_0
        try clear hcz22_1
        try clear hcz22_2
        try clear hcz22_3
        try clear hcz26_0
        try clear hcz26_1
        try clear hcz26_2
        try clear hcz26_3
        try clear hcz30_0
        try clear hcz30_1
        try clear hcz30_2
        try clear hcz30_3
        try clear hcz9_0
        try clear hcz9_1
        try clear hcz9_2
        try clear hcz9_3
        try clear hfz13_0
        try clear hfz13_1
        try clear hfz13_2
        try clear hfz13_3
        try clear hfz22_0
        try clear hfz22_1
        try clear hfz22_2
        try clear hfz22_3
        try clear hfz26_0
        try clear hfz26_1
        try clear hfz26_2
        try clear hfz26_3
        try clear hfz30_0
        try clear hfz30_1
        try clear hfz30_2
        try clear hfz30_3
        try clear hfz9_0
        try clear hfz9_1
        try clear hfz9_2
        try clear hfz9_3
        try clear hx352_0
        try clear hx359_0
        try clear p2
        try clear p352
        try clear p359
        try clear q352
        try clear q359
        obtain ⟨x3_2, x5_2, rfl, HA, HK2, HO_3, BK336, HB⟩ := hrel
        cases gk with
        | zero => exact absurd HA.out (by simp [spec_l4body.l1])
        | succ k2 =>
         have H := HA.out
         clear HA
         simp only [spec_l4body.l1] at H
         by_cases c34 : x5_2 < (l0_2.length : Int)
         ·rw [if_pos c34] at H
          have c34b0 : decide (x5_2 < (l0_2.length : Int)) = true := decide_eq_true c34
          clear c34
          by_cases c35 : 0 ≤ x5_2
          ·rw [if_pos c35] at H
           have c35b0 : decide (0 ≤ x5_2) = true := decide_eq_true c35
           clear c35
           have HC36 := zA H
           clear H
           have hcz37_0 : wr.cell? ⟨gb336, 0, none⟩ = some (.int .i64 a0_0) := (blk_cell BK336.out 0).trans rfl
           have hcz37_1 : wr.cell? ⟨gb336, 1, none⟩ = some (.slice A0_1 l0_1.length c0_1) := (blk_cell BK336.out 1).trans rfl
           have hcz37_2 : wr.cell? ⟨gb336, 2, none⟩ = some (.slice A0_2 l0_2.length c0_2) := (blk_cell BK336.out 2).trans rfl
           have hcz37_3 : wr.cell? ⟨gb336, 3, none⟩ = some (.slice A0_3 l0_3.length c0_3) := (blk_cell BK336.out 3).trans rfl
           have hfz37_0 := blk_frozen BK336.out 0
           have hfz37_1 := blk_frozen BK336.out 1
           have hfz37_2 := blk_frozen BK336.out 2
           have hfz37_3 := blk_frozen BK336.out 3
           have p369 : 0 ≤ (x5_2 : Int) := of_decide_eq_true zq4
           have q369 : x5_2 < (l0_2.length : Int) := of_decide_eq_true zq4
           obtain ⟨ad369, e369, hx369_0⟩ := Kd.at_int HR0_2.out x5_2 p369 q369
           cases e369
           replace hx369_0 := (HB.out.cell (World.block_lt_of_cell? w _ hx369_0)).trans hx369_0
           replace p369 := eq_true p369
           replace q369 := eq_true q369
           go_upto_if 63 with (fail)
           go_cut [6] (fun v6 wc => ∃ (kq : Nat) (x6_35 : Int), v6 = .int .i64 x6_35 ∧ Aside0 (spec_l4body.j2 kq x3_2 x5_2 x6_35 a0_0 l0_1 l0_2 l0_3 = some r) ∧ Aside0 (kq ≤ k2) ∧ Aside0 (Kd.R (Kd.int .u8) 5 wc w.heap.size (fun _ => True) u3 x3_2) ∧ Aside0 (wc.heap[gb336]? = some (.cells #[.int .i64 a0_0, (.slice A0_1 l0_1.length c0_1), (.slice (some ad369) l0_2.length c0_2), (.slice A0_3 l0_3.length c0_3)] 50 (0, 0))) ∧ Aside0 (Below w.heap.size w wc))
           case first =>
            have H := HC36.out
            clear HC36
            by_cases c38 : x5_2 > 0
            ·rw [if_pos c38] at H
             have c38b0 : decide (0 < x5_2) = true := decide_eq_true c38
             clear c38
             (first | rw [c38b0] | (simp only [i64_w, i32_w]; rw [c38b0]) | skip)
             obtain ⟨ji39, hji39⟩ : ∃ j_ : Int, (wrap64 (x5_2 - 1)) = j_ := ⟨_, rfl⟩
             replace H : (if 0 ≤ (ji39) then (if (ji39) < (l0_2.length : Int) then (spec_l4body.j2 k2 x3_2 x5_2 (wrap64 ((rd l0_2 x5_2) - (rd l0_2 (ji39)))) a0_0 l0_1 l0_2 l0_3) else (none)) else (none)) = some r := by first | (rw [hji39] at H; exact H) | (simp only [hji39] at H ⊢; exact H)
             have hji39w : (IntKind.i64.wrap (x5_2 - 1)) = ji39 := (i64_w _).trans hji39
             by_cases c40 : 0 ≤ (ji39)
             ·rw [if_pos c40] at H
              have c40b0 : decide (0 ≤ (ji39)) = true := decide_eq_true c40
              clear c40
              by_cases c41 : (ji39) < (l0_2.length : Int)
              ·rw [if_pos c41] at H
               have c41b0 : decide ((ji39) < (l0_2.length : Int)) = true := decide_eq_true c41
               clear c41
               have H' := zA H
               clear H
               have hcz42_0 : wr.cell? ⟨gb336, 0, none⟩ = some (.int .i64 a0_0) := (blk_cell BK336.out 0).trans rfl
               have hcz42_1 : wr.cell? ⟨gb336, 1, none⟩ = some (.slice A0_1 l0_1.length c0_1) := (blk_cell BK336.out 1).trans rfl
               have hcz42_2 : wr.cell? ⟨gb336, 2, none⟩ = some (.slice (some ad369) l0_2.length c0_2) := (blk_cell BK336.out 2).trans rfl
               have hcz42_3 : wr.cell? ⟨gb336, 3, none⟩ = some (.slice A0_3 l0_3.length c0_3) := (blk_cell BK336.out 3).trans rfl
               have hfz42_0 := blk_frozen BK336.out 0
               have hfz42_1 := blk_frozen BK336.out 1
               have hfz42_2 := blk_frozen BK336.out 2
               have hfz42_3 := blk_frozen BK336.out 3
               have p370 : 0 ≤ ((ji39) : Int) := of_decide_eq_true zq4
               have q370 : (ji39) < (l0_2.length : Int) := of_decide_eq_true zq4
               obtain ⟨ad370, e370, hx370_0⟩ := Kd.at_int HR0_2.out (ji39) p370 q370
               obtain rfl : ad369 = ad370 := (by injection e370)
               replace hx370_0 := (HB.out.cell (World.block_lt_of_cell? w _ hx370_0)).trans hx370_0
               replace p370 := eq_true p370
               replace q370 := eq_true q370
               go_wp2
               go_meet
               case rel => exact ⟨_, (wrap64 ((rd l0_2 x5_2) - (rd l0_2 (ji39)))), (by first | rfl | (simp; done) | (simp only [← hji39] <;> (first | rfl | simp)) | (simp [*]; done)), H', ⟨by have := HK1.out; have := HK2.out; first | omega | exact Nat.le_refl _⟩, ⟨zq15⟩, ⟨by (with_reducible repeat (first | refine blk_drewN ?_ _ | refine blk_drew ?_ | refine blk_alloc ?_ _)); exact BK336.out⟩, ⟨by repeat (first | (with_reducible first | exact HB.out | apply below_alloc | apply pw_below_drewN | apply below_drew1 | refine below_set ?_ GE336.out) | exact HB.out)⟩⟩
              ·rw [if_neg c41] at H
               exact absurd H zq14
             ·rw [if_neg c40] at H
              exact absurd H zq14
            ·rw [if_neg c38] at H
             have c38b0 : decide (0 < x5_2) = false := decide_eq_false c38
             clear c38
             (first | rw [c38b0] | (simp only [i64_w, i32_w]; rw [c38b0]) | skip)
             have H' := zA H
             clear H
             go_wp2
             go_meet
             case rel => exact ⟨_, (rd l0_2 x5_2), zq6, H', ⟨by have := HK1.out; have := HK2.out; first | omega | exact Nat.le_refl _⟩, ⟨zq15⟩, ⟨by (with_reducible repeat (first | refine blk_drewN ?_ _ | refine blk_drew ?_ | refine blk_alloc ?_ _)); exact BK336.out⟩, ⟨by repeat (first | (with_reducible first | exact HB.out | apply below_alloc | apply pw_below_drewN | apply below_drew1 | refine below_set ?_ GE336.out) | exact HB.out)⟩⟩
           case rest =>
            clear HC36
            try clear c1
            try clear c2
            try clear p2
            try clear c3
            try clear p3
            try clear q3
            try clear hx3
            try clear c4
            try clear c5
            try clear p6
            try clear c12
            try clear c15
            try clear c17
            try clear c17b0
            try clear c18
            try clear c18b0
            try clear c20
            try clear c21
            try clear c29
            try clear c34
            try clear c34b0
            try clear c35
            try clear c35b0
            try clear p35
            try clear q35
            try clear hx35
            try clear p36
            try clear q36
            try clear hx36
            try clear p37
            try clear q37
            try clear hx37
            try clear c38
            try clear c38b0
            try clear c40
            try clear c40b0
            try clear c41
            try clear c41b0
            try clear hcz13_0
            try clear hcz13_1
            try clear hcz13_2
            try clear hcz13_3
            try clear hcz22_0
            try clear hcz22_1
            try clear hcz22_2
            try clear hcz22_3
            try clear hcz26_0
            try clear hcz26_1
            try clear hcz26_2
            try clear hcz26_3
            try clear hcz30_0
            try clear hcz30_1
            try clear hcz30_2
            try clear hcz30_3
            try clear hcz37_0
            try clear hcz37_1
            try clear hcz37_2
            try clear hcz37_3
            try clear hcz42_0
            try clear hcz42_1
            try clear hcz42_2
            try clear hcz42_3
            try clear hcz9_0
            try clear hcz9_1
            try clear hcz9_2
            try clear hcz9_3
            try clear hfz13_0
            try clear hfz13_1
            try clear hfz13_2
            try clear hfz13_3
            try clear hfz22_0
            try clear hfz22_1
            try clear hfz22_2
            try clear hfz22_3
            try clear hfz26_0
            try clear hfz26_1
            try clear hfz26_2
            try clear hfz26_3
            try clear hfz30_0
            try clear hfz30_1
            try clear hfz30_2
            try clear hfz30_3
            try clear hfz37_0
            try clear hfz37_1
            try clear hfz37_2
            try clear hfz37_3
            try clear hfz42_0
            try clear hfz42_1
            try clear hfz42_2
            try clear hfz42_3
            try clear hfz9_0
            try clear hfz9_1
            try clear hfz9_2
            try clear hfz9_3
            try clear hx352_0
            try clear hx359_0
            try clear hx369_0
            try clear hx370_0
            try clear p2
            try clear p3
            try clear p352
            try clear p359
            try clear p369
            try clear p370
            try clear p6
            try clear q3
            try clear q352
            try clear q359
            try clear q369
            try clear q370
            obtain ⟨kq, x6_35, rfl, HA, HJ35, HO_3, BK336, HB⟩ := hcut
            cases kq with
            | zero => exact absurd HA.out (by simp [spec_l4body.j2])
            | succ kj35 =>
             have H := HA.out
             clear HA
             simp only [spec_l4body.j2] at H
             replace H := Option.bind_eq_some_iff.mp H
             obtain ⟨t371, A430, H⟩ := H
             replace H : (if x3_2.length + t371.length < 140737488355328 then ((some (x3_2 ++ t371 : List Int)).bind fun y374 => (if 0 ≤ x5_2 then (if x5_2 < (l0_3.length : Int) then ((spec_l4varint.f kj35 ((rd_L3 l0_3 x5_2).length : Int)).bind fun t378 => (if y374.length + t378.length < 140737488355328 then (spec_l4body.l2 kj35 (y374 ++ t378) x5_2 0 a0_0 l0_1 l0_2 l0_3) else (none))) else (none)) else (none))) else (none)) = some r := H
             have A43 := zA A430
             clear A430
             by_cases c44 : x3_2.length + t371.length < 140737488355328
             ·rw [if_pos c44] at H
              have LMc44 := zA c44
              clear c44
              obtain ⟨y374, hy374⟩ : ∃ y_ : List Int, y_ = (x3_2 ++ t371) := ⟨_, rfl⟩
              replace H : (if 0 ≤ x5_2 then (if x5_2 < (l0_3.length : Int) then ((spec_l4varint.f kj35 ((rd_L3 l0_3 x5_2).length : Int)).bind fun t378 => (if y374.length + t378.length < 140737488355328 then (spec_l4body.l2 kj35 (y374 ++ t378) x5_2 0 a0_0 l0_1 l0_2 l0_3) else (none))) else (none)) else (none)) = some r := by first | (rw [hy374]; with_reducible exact H) | (have H2_ := (Option.bind_some _ _).symm.trans H; rw [hy374]; with_reducible exact H2_) | (have H2_ := (Option.bind_some _ _).symm.trans H; with_reducible exact H2_) | with_reducible exact H | (rw [hy374]; exact H) | exact H
              have Ny374 := zA hy374
              clear hy374
              by_cases c45 : 0 ≤ x5_2
              ·rw [if_pos c45] at H
               have c45b0 : decide (0 ≤ x5_2) = true := decide_eq_true c45
               clear c45
               by_cases c46 : x5_2 < (l0_3.length : Int)
               ·rw [if_pos c46] at H
                have c46b0 : decide (x5_2 < (l0_3.length : Int)) = true := decide_eq_true c46
                clear c46
                replace H := Option.bind_eq_some_iff.mp H
                obtain ⟨t378, A470, H⟩ := H
                replace H : (if y374.length + t378.length < 140737488355328 then (spec_l4body.l2 kj35 (y374 ++ t378) x5_2 0 a0_0 l0_1 l0_2 l0_3) else (none)) = some r := H
                have A47 := zA A470
                clear A470
                by_cases c48 : y374.length + t378.length < 140737488355328
                ·rw [if_pos c48] at H
                 have LMc48 := zA c48
                 clear c48
                 obtain ⟨y381, hy381⟩ : ∃ y_ : List Int, y_ = (y374 ++ t378) := ⟨_, rfl⟩
                 replace H : (spec_l4body.l2 kj35 y381 x5_2 0 a0_0 l0_1 l0_2 l0_3) = some r := by first | (rw [hy381]; with_reducible exact H) | (have H2_ := (Option.bind_some _ _).symm.trans H; rw [hy381]; with_reducible exact H2_) | (have H2_ := (Option.bind_some _ _).symm.trans H; with_reducible exact H2_) | with_reducible exact H | (rw [hy381]; exact H) | exact H
                 have Ny381 := zA hy381
                 clear hy381
                 have H' := zA H
                 clear H
                 go_wp2_with (first | ((with_reducible refine gate_callee (f := 155) rfl ?_); refine goesL_ (some 74) rfl rfl Try.func155 zq12 rfl #[.int .i64 x6_35] rfl zq2 ?_; (with_reducible refine (spec_l4varint.calls kj35 x6_35 t371 _ A43.out).mono ?_); rintro e w49 ⟨v372, rfl, ho0, hb⟩; refine ⟨_, rfl, ?_⟩; have n0_ := zA (Kd.R_elder' zq15 (Kd.R_base ho0) hb); have n1_ := zA (Kd.R_lower (Kd.R_new' ho0 (Kd.R_lt zq15)) (below_size (by repeat (first | (with_reducible first | exact HB.out | apply below_alloc | apply pw_below_drewN | apply below_drew1 | refine below_set ?_ GE336.out) | exact HB.out)))); have n2_ := zA (blk_below (g := gb336) (o := .cells #[.int .i64 a0_0, .slice A0_1 l0_1.length c0_1, .slice (some ad369) l0_2.length c0_2, .slice A0_3 l0_3.length c0_3] 50 (0, 0)) (by (with_reducible repeat (first | refine blk_drewN ?_ _ | refine blk_drew ?_ | refine blk_alloc ?_ _)); exact BK336.out) hb); have n3_ := zA (below_step (by repeat (first | (with_reducible first | exact HB.out | apply below_alloc | apply pw_below_drewN | apply below_drew1 | refine below_set ?_ GE336.out) | exact HB.out)) hb); clear HO_3; clear BK336; clear HB; have HO_3 := n0_; have HO373 := n1_; have BK336 := n2_; have HB := n3_; clear n0_ n1_ n2_ n3_; (try clear hb); (try clear hb2); (try clear hk); (try clear hi); (try clear ho0); obtain ⟨Ao51, co51, eo51⟩ := Kd.R_slice HO373.out; subst eo51) | ((with_reducible refine gate_builtin (b := .append) (xs := #[.tmp 72, .tmp 74]) rfl ?_); at_builtin; refine Kd.R_append_rows (Kd.int .u8) (w0 := w) w.heap.size rfl (.tmp 72) (.tmp 74) 33 5 (.int .u8 0) 1 rfl Try.underlying33 info5 rfl zq13 zq3 u3 x3_2 t371 _ _ _ (fun k_ => some k_ ≠ (.slice Ao51 t371.length co51 : Value).ownBlock) (fun _ => False) rfl rfl ?aO ?aR (fun _ _ h => h) (fun _ h => h.elim) ?aF ?aB ?aS ?aL ?_; (case aR => repeat (first | exact (Kd.R_reads' HO373.out).2.2 | (with_reducible refine Kd.C_alloc ?_ _) | (with_reducible refine Kd.C_drewN ?_ _) | (with_reducible refine Kd.C_drew ?_))); (case aB => exact (by repeat (first | (with_reducible first | exact HB.out | apply below_alloc | apply pw_below_drewN | apply below_drew1 | refine below_set ?_ GE336.out) | exact HB.out))); (case aF => exact (fun k_ hk => Kd.fresh' (Kd.R_lt zq32) k_ hk)); (case aO => exact zq24); (case aS => exact (below_size (by repeat (first | (with_reducible first | exact HB.out | apply below_alloc | apply pw_below_drewN | apply below_drew1 | refine below_set ?_ GE336.out) | exact HB.out)))); (case aL => have := LMc44.out; omega); intro v375 w50 ho hb hg hat; rw [← Ny374.out] at ho; have n0_ := zA (blk_grown (g := gb336) (o := .cells #[.int .i64 a0_0, .slice A0_1 l0_1.length c0_1, .slice (some ad369) l0_2.length c0_2, .slice A0_3 l0_3.length c0_3] 50 (0, 0)) (by (with_reducible repeat (first | refine blk_drewN ?_ _ | refine blk_drew ?_ | refine blk_alloc ?_ _)); exact BK336.out) hg (Kd.R_ne HO_3.out BK336.out zq13)); have n1_ := zA (Kd.R_after (ok := (fun _ => True)) zq32 hg hat); have n2_ := zA (hb); have n3_ := zA (ho); clear BK336; clear HO373; clear HB; clear HO_3; have BK336 := n0_; have HO373 := n1_; have HB := n2_; have HO376 := n3_; clear n0_ n1_ n2_ n3_; clear ho hb hg hat; have hcz52_0 : w50.cell? ⟨gb336, 0, none⟩ = some (.int .i64 a0_0) := (blk_cell BK336.out 0).trans rfl; have hcz52_1 : w50.cell? ⟨gb336, 1, none⟩ = some (.slice A0_1 l0_1.length c0_1) := (blk_cell BK336.out 1).trans rfl; have hcz52_2 : w50.cell? ⟨gb336, 2, none⟩ = some (.slice (some ad369) l0_2.length c0_2) := (blk_cell BK336.out 2).trans rfl; have hcz52_3 : w50.cell? ⟨gb336, 3, none⟩ = some (.slice A0_3 l0_3.length c0_3) := (blk_cell BK336.out 3).trans rfl; have hfz52_0 := blk_frozen BK336.out 0; have hfz52_1 := blk_frozen BK336.out 1; have hfz52_2 := blk_frozen BK336.out 2; have hfz52_3 := blk_frozen BK336.out 3; have p377 : 0 ≤ (x5_2 : Int) := of_decide_eq_true zq4; have q377 : x5_2 < (l0_3.length : Int) := of_decide_eq_true zq4; obtain ⟨ad377, A377_0, c377_0, e377, hx377_0, hl377_0, hi377_0⟩ := at_L3 HR0_3.out x5_2 p377 q377; cases e377; replace hx377_0 := (HB.out.cell (World.block_lt_of_cell? w _ hx377_0)).trans hx377_0; have HR377_0 := zA hi377_0; have HC377_0 := zA hl377_0; clear hi377_0 hl377_0; replace p377 := eq_true p377; replace q377 := eq_true q377) | ((with_reducible refine gate_callee (f := 155) rfl ?_); refine goesL_ (some 83) rfl rfl Try.func155 zq12 rfl #[.int .i64 ((rd_L3 l0_3 x5_2).length : Int)] rfl zq2 ?_; (with_reducible refine (spec_l4varint.calls kj35 ((rd_L3 l0_3 x5_2).length : Int) t378 _ A47.out).mono ?_); rintro e w53 ⟨v379, rfl, ho0, hb⟩; refine ⟨_, rfl, ?_⟩; have n0_ := zA (Kd.R_elder' zq32 (Kd.R_base ho0) hb); have n1_ := zA (Kd.R_elder' zq50 (Kd.R_base ho0) hb); have n2_ := zA (Kd.R_lower (Kd.R_new' (Kd.R_new' ho0 (Kd.R_lt zq32)) (Kd.R_lt zq50)) (below_size (by repeat (first | (with_reducible first | exact HB.out | apply below_alloc | apply pw_below_drewN | apply below_drew1 | refine below_set ?_ GE336.out) | exact HB.out)))); have n3_ := zA (blk_below (g := gb336) (o := .cells #[.int .i64 a0_0, .slice A0_1 l0_1.length c0_1, .slice (some ad369) l0_2.length c0_2, .slice (some ad377) l0_3.length c0_3] 50 (0, 0)) (by (with_reducible repeat (first | refine blk_drewN ?_ _ | refine blk_drew ?_ | refine blk_alloc ?_ _)); exact BK336.out) hb); have n4_ := zA (below_step (by repeat (first | (with_reducible first | exact HB.out | apply below_alloc | apply pw_below_drewN | apply below_drew1 | refine below_set ?_ GE336.out) | exact HB.out)) hb); clear HO373; clear HO376; clear BK336; clear HB; have HO373 := n0_; have HO376 := n1_; have HO380 := n2_; have BK336 := n3_; have HB := n4_; clear n0_ n1_ n2_ n3_ n4_; (try clear hb); (try clear hb2); (try clear hk); (try clear hi); (try clear ho0); obtain ⟨Ao55, co55, eo55⟩ := Kd.R_slice HO380.out; subst eo55) | ((with_reducible refine gate_builtin (b := .append) (xs := #[.tmp 76, .tmp 83]) rfl ?_); at_builtin; refine Kd.R_append_rows (Kd.int .u8) (w0 := w) w.heap.size rfl (.tmp 76) (.tmp 83) 33 5 (.int .u8 0) 1 rfl Try.underlying33 info5 rfl zq13 zq3 v375 y374 t378 _ _ _ (fun k_ => some k_ ≠ (.slice Ao51 t371.length co51 : Value).ownBlock ∧ some k_ ≠ (.slice Ao55 t378.length co55 : Value).ownBlock) (fun _ => False) rfl rfl ?aO ?aR (fun _ _ h => h) (fun _ h => h.elim) ?aF ?aB ?aS ?aL ?_; (case aR => repeat (first | exact (Kd.R_reads' HO380.out).2.2 | (with_reducible refine Kd.C_alloc ?_ _) | (with_reducible refine Kd.C_drewN ?_ _) | (with_reducible refine Kd.C_drew ?_))); (case aB => exact (by repeat (first | (with_reducible first | exact HB.out | apply below_alloc | apply pw_below_drewN | apply below_drew1 | refine below_set ?_ GE336.out) | exact HB.out))); (case aF => exact (fun k_ hk => ⟨Kd.fresh' (Kd.R_lt zq32) k_ hk, Kd.fresh' (Kd.R_lt (by (with_reducible repeat (first | apply Kd.R_alloc | apply Kd.R_drewN | apply Kd.R_drew)); exact HO380.out)) k_ hk⟩)); (case aO => exact zq50); (case aS => exact (below_size (by repeat (first | (with_reducible first | exact HB.out | apply below_alloc | apply pw_below_drewN | apply below_drew1 | refine below_set ?_ GE336.out) | exact HB.out)))); (case aL => have := LMc48.out; omega); intro v382 w54 ho hb hg hat; rw [← Ny381.out] at ho; have n0_ := zA (blk_grown (g := gb336) (o := .cells #[.int .i64 a0_0, .slice A0_1 l0_1.length c0_1, .slice (some ad369) l0_2.length c0_2, .slice (some ad377) l0_3.length c0_3] 50 (0, 0)) (by (with_reducible repeat (first | refine blk_drewN ?_ _ | refine blk_drew ?_ | refine blk_alloc ?_ _)); exact BK336.out) hg (Kd.R_ne HO376.out BK336.out zq13)); have n1_ := zA (Kd.R_after (ok := (fun k_ => some k_ ≠ (.slice Ao55 t378.length co55 : Value).ownBlock)) (by (with_reducible repeat (first | apply Kd.R_alloc | apply Kd.R_drewN | apply Kd.R_drew)); exact Kd.R_mono HO373.out (fun _ hk => ⟨hk.2, hk.1.2⟩)) hg hat); have n2_ := zA (Kd.R_after (ok := (fun k_ => some k_ ≠ (.slice Ao51 t371.length co51 : Value).ownBlock)) (by (with_reducible repeat (first | apply Kd.R_alloc | apply Kd.R_drewN | apply Kd.R_drew)); exact Kd.R_mono HO380.out (fun _ hk => ⟨hk.1.2, hk.2⟩)) hg hat); have n3_ := zA (hb); have n4_ := zA (ho); clear BK336; clear HO373; clear HO380; clear HB; clear HO376; have BK336 := n0_; have HO373 := n1_; have HO380 := n2_; have HB := n3_; have HO383 := n4_; clear n0_ n1_ n2_ n3_ n4_; clear ho hb hg hat))
                 go_loopg [3, 7] kj35 (fun kq v3 v7 w' => ∃ (x3_4 : List Int) (x7_4 : Int), v7 = .int .i64 x7_4 ∧ Aside0 (spec_l4body.l2 kq x3_4 x5_2 x7_4 a0_0 l0_1 l0_2 l0_3 = some r) ∧ Aside0 (kq ≤ kj35) ∧ Aside0 (Kd.R (Kd.int .u8) 5 w' w.heap.size (fun _ => True) v3 x3_4) ∧ Aside0 (w'.heap[gb336]? = some (.cells #[.int .i64 a0_0, (.slice A0_1 l0_1.length c0_1), (.slice (some ad369) l0_2.length c0_2), (.slice (some ad377) l0_3.length c0_3)] 50 (0, 0))) ∧ Aside0 (Below w.heap.size w w'))
                 case atStart => exact ⟨(y381), (0), zq6, H', ⟨Nat.le_refl _⟩, ⟨by (with_reducible repeat (first | apply Kd.R_alloc | apply Kd.R_drewN | apply Kd.R_drew)); exact Kd.R_mono HO383.out (fun _ hk => trivial)⟩, ⟨by (with_reducible repeat (first | refine blk_drewN ?_ _ | refine blk_drew ?_ | refine blk_alloc ?_ _)); exact BK336.out⟩, ⟨by repeat (first | (with_reducible first | exact HB.out | apply below_alloc | apply pw_below_drewN | apply below_drew1 | refine below_set ?_ GE336.out) | exact HB.out)⟩⟩
                 case round =>
                  clear H'
                  try clear c1
                  try clear c2
                  try clear p2
                  try clear c3
                  try clear p3
                  try clear q3
                  try clear hx3
                  try clear c4
                  try clear c5
                  try clear p6
                  try clear c12
                  try clear c15
                  try clear c17
                  try clear c17b0
                  try clear c18
                  try clear c18b0
                  try clear c20
                  try clear c21
                  try clear c29
                  try clear c34
                  try clear c34b0
                  try clear c35
                  try clear c35b0
                  try clear p35
                  try clear q35
                  try clear hx35
                  try clear p36
                  try clear q36
                  try clear hx36
                  try clear c37
                  try clear p37
                  try clear q37
                  try clear hx37
                  try clear c38
                  try clear c38b0
                  try clear c40
                  try clear c40b0
                  try clear c41
                  try clear c41b0
                  try clear c44
                  try clear c45
                  try clear c45b0
                  try clear c46
                  try clear c46b0
                  try clear c48
                  try clear hcz13_0
                  try clear hcz13_1
                  try clear hcz13_2
                  try clear hcz13_3
                  try clear hcz22_0
                  try clear hcz22_1
                  try clear hcz22_2
                  try clear hcz22_3
                  try clear hcz26_0
                  try clear hcz26_1
                  try clear hcz26_2
                  try clear hcz26_3
                  try clear hcz30_0
                  try clear hcz30_1
                  try clear hcz30_2
                  try clear hcz30_3
                  try clear hcz37_0
                  try clear hcz37_1
                  try clear hcz37_2
                  try clear hcz37_3
                  try clear hcz42_0
                  try clear hcz42_1
                  try clear hcz42_2
                  try clear hcz42_3
                  try clear hcz52_0
                  try clear hcz52_1
                  try clear hcz52_2
                  try clear hcz52_3
                  try clear hcz9_0
                  try clear hcz9_1
                  try clear hcz9_2
                  try clear hcz9_3
                  try clear hfz13_0
                  try clear hfz13_1
                  try clear hfz13_2
                  try clear hfz13_3
                  try clear hfz22_0
                  try clear hfz22_1
                  try clear hfz22_2
                  try clear hfz22_3
                  try clear hfz26_0
                  try clear hfz26_1
                  try clear hfz26_2
                  try clear hfz26_3
                  try clear hfz30_0
                  try clear hfz30_1
                  try clear hfz30_2
                  try clear hfz30_3
                  try clear hfz37_0
                  try clear hfz37_1
                  try clear hfz37_2
                  try clear hfz37_3
                  try clear hfz42_0
                  try clear hfz42_1
                  try clear hfz42_2
                  try clear hfz42_3
                  try clear hfz52_0
                  try clear hfz52_1
                  try clear hfz52_2
                  try clear hfz52_3
                  try clear hfz9_0
                  try clear hfz9_1
                  try clear hfz9_2
                  try clear hfz9_3
                  try clear hx352_0
                  try clear hx359_0
                  try clear hx369_0
                  try clear hx370_0
                  try clear hx377_0
                  try clear p2
                  try clear p3
                  try clear p35
                  try clear p352
                  try clear p359
                  try clear p36
                  try clear p369
                  try clear p37
                  try clear p370
                  try clear p377
                  try clear p6
                  try clear q3
                  try clear q35
                  try clear q352
                  try clear q359
                  try clear q36
                  try clear q369
                  try clear q37
                  try clear q370
                  try clear q377
                  obtain ⟨x3_4, x7_4, rfl, HA, HK4, HO_3, BK336, HB⟩ := hrel
                  cases gk with
                  | zero => exact absurd HA.out (by simp [spec_l4body.l2])
                  | succ k4 =>
                   have H := HA.out
                   clear HA
                   simp only [spec_l4body.l2] at H
                   by_cases c56 : 0 ≤ x5_2
                   ·rw [if_pos c56] at H
                    have c56b0 : decide (0 ≤ x5_2) = true := decide_eq_true c56
                    clear c56
                    by_cases c57 : x5_2 < (l0_3.length : Int)
                    ·rw [if_pos c57] at H
                     have c57b0 : decide (x5_2 < (l0_3.length : Int)) = true := decide_eq_true c57
                     clear c57
                     by_cases c58 : x7_4 < ((rd_L3 l0_3 x5_2).length : Int)
                     ·rw [if_pos c58] at H
                      have c58b0 : decide (x7_4 < ((rd_L3 l0_3 x5_2).length : Int)) = true := decide_eq_true c58
                      clear c58
                      by_cases c59 : x7_4 > 0
                      ·rw [if_pos c59] at H
                       have c59b0 : decide (0 < x7_4) = true := decide_eq_true c59
                       clear c59
                       obtain ⟨ji60, hji60⟩ : ∃ j_ : Int, (wrap64 (x7_4 - 1)) = j_ := ⟨_, rfl⟩
                       replace H : (if 0 ≤ (ji60) then (if (ji60) < ((rd_L3 l0_3 x5_2).length : Int) then (if 0 ≤ x7_4 then ((spec_l4varint.f k4 (wrap64 ((rd (rd_L3 l0_3 x5_2) x7_4) - (rd (rd_L3 l0_3 x5_2) (ji60))))).bind fun t389 => (if x3_4.length + t389.length < 140737488355328 then (spec_l4body.l2 k4 (x3_4 ++ t389) x5_2 (wrap64 (x7_4 + 1)) a0_0 l0_1 l0_2 l0_3) else (none))) else (none)) else (none)) else (none)) = some r := by first | (rw [hji60] at H; exact H) | (simp only [hji60] at H ⊢; exact H)
                       have hji60w : (IntKind.i64.wrap (x7_4 - 1)) = ji60 := (i64_w _).trans hji60
                       by_cases c61 : 0 ≤ (ji60)
                       ·rw [if_pos c61] at H
                        have c61b0 : decide (0 ≤ (ji60)) = true := decide_eq_true c61
                        clear c61
                        by_cases c62 : (ji60) < ((rd_L3 l0_3 x5_2).length : Int)
                        ·rw [if_pos c62] at H
                         have c62b0 : decide ((ji60) < ((rd_L3 l0_3 x5_2).length : Int)) = true := decide_eq_true c62
                         clear c62
                         by_cases c63 : 0 ≤ x7_4
                         ·rw [if_pos c63] at H
                          have c63b0 : decide (0 ≤ x7_4) = true := decide_eq_true c63
                          clear c63
                          replace H := Option.bind_eq_some_iff.mp H
                          obtain ⟨t389, A640, H⟩ := H
                          replace H : (if x3_4.length + t389.length < 140737488355328 then (spec_l4body.l2 k4 (x3_4 ++ t389) x5_2 (wrap64 (x7_4 + 1)) a0_0 l0_1 l0_2 l0_3) else (none)) = some r := H
                          have A64 := zA A640
                          clear A640
                          by_cases c65 : x3_4.length + t389.length < 140737488355328
                          ·rw [if_pos c65] at H
                           have LMc65 := zA c65
                           clear c65
                           obtain ⟨y392, hy392⟩ : ∃ y_ : List Int, y_ = (x3_4 ++ t389) := ⟨_, rfl⟩
                           replace H : (spec_l4body.l2 k4 y392 x5_2 (wrap64 (x7_4 + 1)) a0_0 l0_1 l0_2 l0_3) = some r := by first | (rw [hy392]; with_reducible exact H) | (have H2_ := (Option.bind_some _ _).symm.trans H; rw [hy392]; with_reducible exact H2_) | (have H2_ := (Option.bind_some _ _).symm.trans H; with_reducible exact H2_) | with_reducible exact H | (rw [hy392]; exact H) | exact H
                           have Ny392 := zA hy392
                           clear hy392
                           have H' := zA H
                           clear H
                           have hcz66_0 : wr.cell? ⟨gb336, 0, none⟩ = some (.int .i64 a0_0) := (blk_cell BK336.out 0).trans rfl
                           have hcz66_1 : wr.cell? ⟨gb336, 1, none⟩ = some (.slice A0_1 l0_1.length c0_1) := (blk_cell BK336.out 1).trans rfl
                           have hcz66_2 : wr.cell? ⟨gb336, 2, none⟩ = some (.slice (some ad369) l0_2.length c0_2) := (blk_cell BK336.out 2).trans rfl
                           have hcz66_3 : wr.cell? ⟨gb336, 3, none⟩ = some (.slice (some ad377) l0_3.length c0_3) := (blk_cell BK336.out 3).trans rfl
                           have hfz66_0 := blk_frozen BK336.out 0
                           have hfz66_1 := blk_frozen BK336.out 1
                           have hfz66_2 := blk_frozen BK336.out 2
                           have hfz66_3 := blk_frozen BK336.out 3
                           have p384 : 0 ≤ (x5_2 : Int) := of_decide_eq_true zq4
                           have q384 : x5_2 < (l0_3.length : Int) := of_decide_eq_true zq4
                           obtain ⟨ad384, A384_0, c384_0, e384, hx384_0, hl384_0, hi384_0⟩ := at_L3 HR0_3.out x5_2 p384 q384
                           obtain rfl : ad377 = ad384 := (by injection e384)
                           replace hx384_0 := (HB.out.cell (World.block_lt_of_cell? w _ hx384_0)).trans hx384_0
                           have HR384_0 := zA hi384_0
                           have HC384_0 := zA hl384_0
                           clear hi384_0 hl384_0
                           replace p384 := eq_true p384
                           replace q384 := eq_true q384
                           have p385 : 0 ≤ (x5_2 : Int) := of_decide_eq_true zq4
                           have q385 : x5_2 < (l0_3.length : Int) := of_decide_eq_true zq4
                           obtain ⟨ad385, A385_0, c385_0, e385, hx385_0, hl385_0, hi385_0⟩ := at_L3 HR0_3.out x5_2 p385 q385
                           obtain rfl : ad377 = ad385 := (by injection e385)
                           replace hx385_0 := (HB.out.cell (World.block_lt_of_cell? w _ hx385_0)).trans hx385_0
                           have HR385_0 := zA hi385_0
                           have HC385_0 := zA hl385_0
                           clear hi385_0 hl385_0
                           replace p385 := eq_true p385
                           replace q385 := eq_true q385
                           have ea_ := Option.some.inj (hx384_0.symm.trans hx385_0)
                           injection ea_ with ea_ en_ ec_
                           subst ea_
                           subst ec_
                           clear en_
                           have p386 : 0 ≤ ((ji60) : Int) := of_decide_eq_true zq4
                           have q386 : (ji60) < ((rd_L3 l0_3 x5_2).length : Int) := of_decide_eq_true zq4
                           obtain ⟨ad386, e386, hx386_0⟩ := Kd.at_int HR385_0.out (ji60) p386 q386
                           cases e386
                           replace hx386_0 := (HB.out.cell (World.block_lt_of_cell? w _ hx386_0)).trans hx386_0
                           replace p386 := eq_true p386
                           replace q386 := eq_true q386
                           have p387 : 0 ≤ (x5_2 : Int) := of_decide_eq_true zq4
                           have q387 : x5_2 < (l0_3.length : Int) := of_decide_eq_true zq4
                           obtain ⟨ad387, A387_0, c387_0, e387, hx387_0, hl387_0, hi387_0⟩ := at_L3 HR0_3.out x5_2 p387 q387
                           obtain rfl : ad377 = ad387 := (by injection e387)
                           replace hx387_0 := (HB.out.cell (World.block_lt_of_cell? w _ hx387_0)).trans hx387_0
                           have HR387_0 := zA hi387_0
                           have HC387_0 := zA hl387_0
                           clear hi387_0 hl387_0
                           replace p387 := eq_true p387
                           replace q387 := eq_true q387
                           have ea_ := Option.some.inj (hx384_0.symm.trans hx387_0)
                           injection ea_ with ea_ en_ ec_
                           subst ea_
                           subst ec_
                           clear en_
                           have p388 : 0 ≤ (x7_4 : Int) := of_decide_eq_true zq4
                           have q388 : x7_4 < ((rd_L3 l0_3 x5_2).length : Int) := of_decide_eq_true zq4
                           obtain ⟨ad388, e388, hx388_0⟩ := Kd.at_int HR387_0.out x7_4 p388 q388
                           cases e388
                           replace hx388_0 := (HB.out.cell (World.block_lt_of_cell? w _ hx388_0)).trans hx388_0
                           replace p388 := eq_true p388
                           replace q388 := eq_true q388
                           go_wp2_with (first | ((with_reducible refine gate_callee (f := 155) rfl ?_); refine goesL_ (some 119) rfl rfl Try.func155 zq12 rfl #[.int .i64 (wrap64 ((rd (rd_L3 l0_3 x5_2) x7_4) - (rd (rd_L3 l0_3 x5_2) (ji60))))] rfl (by (try simp only [List.map_toArray, List.map_cons, List.map_nil]); first | done | (simp only [hji60]; rfl) | rfl | (simp only [List.length_drop, List.length_take]; rfl)) ?_; (with_reducible refine (spec_l4varint.calls k4 (wrap64 ((rd (rd_L3 l0_3 x5_2) x7_4) - (rd (rd_L3 l0_3 x5_2) (ji60)))) t389 _ A64.out).mono ?_); rintro e w67 ⟨v390, rfl, ho0, hb⟩; refine ⟨_, rfl, ?_⟩; have n0_ := zA (Kd.R_elder' zq15 (Kd.R_base ho0) hb); have n1_ := zA (Kd.R_lower (Kd.R_new' ho0 (Kd.R_lt zq15)) (below_size (by repeat (first | (with_reducible first | exact HB.out | apply below_alloc | apply pw_below_drewN | apply below_drew1 | refine below_set ?_ GE336.out) | exact HB.out)))); have n2_ := zA (blk_below (g := gb336) (o := .cells #[.int .i64 a0_0, .slice A0_1 l0_1.length c0_1, .slice (some ad369) l0_2.length c0_2, .slice (some ad377) l0_3.length c0_3] 50 (0, 0)) (by (with_reducible repeat (first | refine blk_drewN ?_ _ | refine blk_drew ?_ | refine blk_alloc ?_ _)); exact BK336.out) hb); have n3_ := zA (below_step (by repeat (first | (with_reducible first | exact HB.out | apply below_alloc | apply pw_below_drewN | apply below_drew1 | refine below_set ?_ GE336.out) | exact HB.out)) hb); clear HO_3; clear BK336; clear HB; have HO_3 := n0_; have HO391 := n1_; have BK336 := n2_; have HB := n3_; clear n0_ n1_ n2_ n3_; (try clear hb); (try clear hb2); (try clear hk); (try clear hi); (try clear ho0); obtain ⟨Ao69, co69, eo69⟩ := Kd.R_slice HO391.out; subst eo69) | ((with_reducible refine gate_builtin (b := .append) (xs := #[.tmp 108, .tmp 119]) rfl ?_); at_builtin; refine Kd.R_append_rows (Kd.int .u8) (w0 := w) w.heap.size rfl (.tmp 108) (.tmp 119) 33 5 (.int .u8 0) 1 rfl Try.underlying33 info5 rfl zq13 zq3 u3 x3_4 t389 _ _ _ (fun k_ => some k_ ≠ (.slice Ao69 t389.length co69 : Value).ownBlock) (fun _ => False) rfl rfl ?aO ?aR (fun _ _ h => h) (fun _ h => h.elim) ?aF ?aB ?aS ?aL ?_; (case aR => repeat (first | exact (Kd.R_reads' HO391.out).2.2 | (with_reducible refine Kd.C_alloc ?_ _) | (with_reducible refine Kd.C_drewN ?_ _) | (with_reducible refine Kd.C_drew ?_))); (case aB => exact (by repeat (first | (with_reducible first | exact HB.out | apply below_alloc | apply pw_below_drewN | apply below_drew1 | refine below_set ?_ GE336.out) | exact HB.out))); (case aF => exact (fun k_ hk => Kd.fresh' (Kd.R_lt (by (with_reducible repeat (first | apply Kd.R_alloc | apply Kd.R_drewN | apply Kd.R_drew)); exact HO391.out)) k_ hk)); (case aO => exact zq24); (case aS => exact (below_size (by repeat (first | (with_reducible first | exact HB.out | apply below_alloc | apply pw_below_drewN | apply below_drew1 | refine below_set ?_ GE336.out) | exact HB.out)))); (case aL => have := LMc65.out; omega); intro v393 w68 ho hb hg hat; rw [← Ny392.out] at ho; have n0_ := zA (blk_grown (g := gb336) (o := .cells #[.int .i64 a0_0, .slice A0_1 l0_1.length c0_1, .slice (some ad369) l0_2.length c0_2, .slice (some ad377) l0_3.length c0_3] 50 (0, 0)) (by (with_reducible repeat (first | refine blk_drewN ?_ _ | refine blk_drew ?_ | refine blk_alloc ?_ _)); exact BK336.out) hg (Kd.R_ne HO_3.out BK336.out zq13)); have n1_ := zA (Kd.R_after (ok := (fun _ => True)) (by (with_reducible repeat (first | apply Kd.R_alloc | apply Kd.R_drewN | apply Kd.R_drew)); exact HO391.out) hg hat); have n2_ := zA (hb); have n3_ := zA (ho); clear BK336; clear HO391; clear HB; clear HO_3; have BK336 := n0_; have HO391 := n1_; have HB := n2_; have HO394 := n3_; clear n0_ n1_ n2_ n3_; clear ho hb hg hat))
                           go_roundg k4
                           case measure => have := HK1.out; have := HK2.out; have := HJ35.out; have := HK4.out; omega
                           case rel => exact ⟨(y392), (wrap64 (x7_4 + 1)), zq6, H', ⟨by have := HK1.out; have := HK2.out; have := HJ35.out; have := HK4.out; omega⟩, ⟨by (with_reducible repeat (first | apply Kd.R_alloc | apply Kd.R_drewN | apply Kd.R_drew)); exact Kd.R_mono HO394.out (fun _ hk => trivial)⟩, ⟨by (with_reducible repeat (first | refine blk_drewN ?_ _ | refine blk_drew ?_ | refine blk_alloc ?_ _)); exact BK336.out⟩, ⟨by repeat (first | (with_reducible first | exact HB.out | apply below_alloc | apply pw_below_drewN | apply below_drew1 | refine below_set ?_ GE336.out) | exact HB.out)⟩⟩
                          ·rw [if_neg c65] at H
                           exact absurd H zq14
                         ·rw [if_neg c63] at H
                          exact absurd H zq14
                        ·rw [if_neg c62] at H
                         exact absurd H zq14
                       ·rw [if_neg c61] at H
                        exact absurd H zq14
                      ·rw [if_neg c59] at H
                       have c59b0 : decide (0 < x7_4) = false := decide_eq_false c59
                       clear c59
                       by_cases c70 : 0 ≤ x7_4
                       ·rw [if_pos c70] at H
                        have c70b0 : decide (0 ≤ x7_4) = true := decide_eq_true c70
                        clear c70
                        replace H := Option.bind_eq_some_iff.mp H
                        obtain ⟨t397, A710, H⟩ := H
                        replace H : (if x3_4.length + t397.length < 140737488355328 then (spec_l4body.l2 k4 (x3_4 ++ t397) x5_2 (wrap64 (x7_4 + 1)) a0_0 l0_1 l0_2 l0_3) else (none)) = some r := H
                        have A71 := zA A710
                        clear A710
                        by_cases c72 : x3_4.length + t397.length < 140737488355328
                        ·rw [if_pos c72] at H
                         have LMc72 := zA c72
                         clear c72
                         obtain ⟨y400, hy400⟩ : ∃ y_ : List Int, y_ = (x3_4 ++ t397) := ⟨_, rfl⟩
                         replace H : (spec_l4body.l2 k4 y400 x5_2 (wrap64 (x7_4 + 1)) a0_0 l0_1 l0_2 l0_3) = some r := by first | (rw [hy400]; with_reducible exact H) | (have H2_ := (Option.bind_some _ _).symm.trans H; rw [hy400]; with_reducible exact H2_) | (have H2_ := (Option.bind_some _ _).symm.trans H; with_reducible exact H2_) | with_reducible exact H | (rw [hy400]; exact H) | exact H
                         have Ny400 := zA hy400
                         clear hy400
                         have H' := zA H
                         clear H
                         have hcz73_0 : wr.cell? ⟨gb336, 0, none⟩ = some (.int .i64 a0_0) := (blk_cell BK336.out 0).trans rfl
                         have hcz73_1 : wr.cell? ⟨gb336, 1, none⟩ = some (.slice A0_1 l0_1.length c0_1) := (blk_cell BK336.out 1).trans rfl
                         have hcz73_2 : wr.cell? ⟨gb336, 2, none⟩ = some (.slice (some ad369) l0_2.length c0_2) := (blk_cell BK336.out 2).trans rfl
                         have hcz73_3 : wr.cell? ⟨gb336, 3, none⟩ = some (.slice (some ad377) l0_3.length c0_3) := (blk_cell BK336.out 3).trans rfl
                         have hfz73_0 := blk_frozen BK336.out 0
                         have hfz73_1 := blk_frozen BK336.out 1
                         have hfz73_2 := blk_frozen BK336.out 2
                         have hfz73_3 := blk_frozen BK336.out 3
                         have p384 : 0 ≤ (x5_2 : Int) := of_decide_eq_true zq4
                         have q384 : x5_2 < (l0_3.length : Int) := of_decide_eq_true zq4
                         obtain ⟨ad384, A384_0, c384_0, e384, hx384_0, hl384_0, hi384_0⟩ := at_L3 HR0_3.out x5_2 p384 q384
                         obtain rfl : ad377 = ad384 := (by injection e384)
                         replace hx384_0 := (HB.out.cell (World.block_lt_of_cell? w _ hx384_0)).trans hx384_0
                         have HR384_0 := zA hi384_0
                         have HC384_0 := zA hl384_0
                         clear hi384_0 hl384_0
                         replace p384 := eq_true p384
                         replace q384 := eq_true q384
                         have p395 : 0 ≤ (x5_2 : Int) := of_decide_eq_true zq4
                         have q395 : x5_2 < (l0_3.length : Int) := of_decide_eq_true zq4
                         obtain ⟨ad395, A395_0, c395_0, e395, hx395_0, hl395_0, hi395_0⟩ := at_L3 HR0_3.out x5_2 p395 q395
                         obtain rfl : ad377 = ad395 := (by injection e395)
                         replace hx395_0 := (HB.out.cell (World.block_lt_of_cell? w _ hx395_0)).trans hx395_0
                         have HR395_0 := zA hi395_0
                         have HC395_0 := zA hl395_0
                         clear hi395_0 hl395_0
                         replace p395 := eq_true p395
                         replace q395 := eq_true q395
                         have ea_ := Option.some.inj (hx384_0.symm.trans hx395_0)
                         injection ea_ with ea_ en_ ec_
                         subst ea_
                         subst ec_
                         clear en_
                         have p396 : 0 ≤ (x7_4 : Int) := of_decide_eq_true zq4
                         have q396 : x7_4 < ((rd_L3 l0_3 x5_2).length : Int) := of_decide_eq_true zq4
                         obtain ⟨ad396, e396, hx396_0⟩ := Kd.at_int HR395_0.out x7_4 p396 q396
                         cases e396
                         replace hx396_0 := (HB.out.cell (World.block_lt_of_cell? w _ hx396_0)).trans hx396_0
                         replace p396 := eq_true p396
                         replace q396 := eq_true q396
                         go_wp2_with (first | ((with_reducible refine gate_callee (f := 155) rfl ?_); refine goesL_ (some 119) rfl rfl Try.func155 zq12 rfl #[.int .i64 (wrap64 ((rd (rd_L3 l0_3 x5_2) x7_4) - a0_0))] rfl zq2 ?_; (with_reducible refine (spec_l4varint.calls k4 (wrap64 ((rd (rd_L3 l0_3 x5_2) x7_4) - a0_0)) t397 _ A71.out).mono ?_); rintro e w74 ⟨v398, rfl, ho0, hb⟩; refine ⟨_, rfl, ?_⟩; have n0_ := zA (Kd.R_elder' zq15 (Kd.R_base ho0) hb); have n1_ := zA (Kd.R_lower (Kd.R_new' ho0 (Kd.R_lt zq15)) (below_size (by repeat (first | (with_reducible first | exact HB.out | apply below_alloc | apply pw_below_drewN | apply below_drew1 | refine below_set ?_ GE336.out) | exact HB.out)))); have n2_ := zA (blk_below (g := gb336) (o := .cells #[.int .i64 a0_0, .slice A0_1 l0_1.length c0_1, .slice (some ad369) l0_2.length c0_2, .slice (some ad377) l0_3.length c0_3] 50 (0, 0)) (by (with_reducible repeat (first | refine blk_drewN ?_ _ | refine blk_drew ?_ | refine blk_alloc ?_ _)); exact BK336.out) hb); have n3_ := zA (below_step (by repeat (first | (with_reducible first | exact HB.out | apply below_alloc | apply pw_below_drewN | apply below_drew1 | refine below_set ?_ GE336.out) | exact HB.out)) hb); clear HO_3; clear BK336; clear HB; have HO_3 := n0_; have HO399 := n1_; have BK336 := n2_; have HB := n3_; clear n0_ n1_ n2_ n3_; (try clear hb); (try clear hb2); (try clear hk); (try clear hi); (try clear ho0); obtain ⟨Ao76, co76, eo76⟩ := Kd.R_slice HO399.out; subst eo76) | ((with_reducible refine gate_builtin (b := .append) (xs := #[.tmp 108, .tmp 119]) rfl ?_); at_builtin; refine Kd.R_append_rows (Kd.int .u8) (w0 := w) w.heap.size rfl (.tmp 108) (.tmp 119) 33 5 (.int .u8 0) 1 rfl Try.underlying33 info5 rfl zq13 zq3 u3 x3_4 t397 _ _ _ (fun k_ => some k_ ≠ (.slice Ao76 t397.length co76 : Value).ownBlock) (fun _ => False) rfl rfl ?aO ?aR (fun _ _ h => h) (fun _ h => h.elim) ?aF ?aB ?aS ?aL ?_; (case aR => repeat (first | exact (Kd.R_reads' HO399.out).2.2 | (with_reducible refine Kd.C_alloc ?_ _) | (with_reducible refine Kd.C_drewN ?_ _) | (with_reducible refine Kd.C_drew ?_))); (case aB => exact (by repeat (first | (with_reducible first | exact HB.out | apply below_alloc | apply pw_below_drewN | apply below_drew1 | refine below_set ?_ GE336.out) | exact HB.out))); (case aF => exact (fun k_ hk => Kd.fresh' (Kd.R_lt (by (with_reducible repeat (first | apply Kd.R_alloc | apply Kd.R_drewN | apply Kd.R_drew)); exact HO399.out)) k_ hk)); (case aO => exact zq24); (case aS => exact (below_size (by repeat (first | (with_reducible first | exact HB.out | apply below_alloc | apply pw_below_drewN | apply below_drew1 | refine below_set ?_ GE336.out) | exact HB.out)))); (case aL => have := LMc72.out; omega); intro v401 w75 ho hb hg hat; rw [← Ny400.out] at ho; have n0_ := zA (blk_grown (g := gb336) (o := .cells #[.int .i64 a0_0, .slice A0_1 l0_1.length c0_1, .slice (some ad369) l0_2.length c0_2, .slice (some ad377) l0_3.length c0_3] 50 (0, 0)) (by (with_reducible repeat (first | refine blk_drewN ?_ _ | refine blk_drew ?_ | refine blk_alloc ?_ _)); exact BK336.out) hg (Kd.R_ne HO_3.out BK336.out zq13)); have n1_ := zA (Kd.R_after (ok := (fun _ => True)) (by (with_reducible repeat (first | apply Kd.R_alloc | apply Kd.R_drewN | apply Kd.R_drew)); exact HO399.out) hg hat); have n2_ := zA (hb); have n3_ := zA (ho); clear BK336; clear HO399; clear HB; clear HO_3; have BK336 := n0_; have HO399 := n1_; have HB := n2_; have HO402 := n3_; clear n0_ n1_ n2_ n3_; clear ho hb hg hat))
                         go_roundg k4
                         case measure => have := HK1.out; have := HK2.out; have := HJ35.out; have := HK4.out; omega
                         case rel => exact ⟨(y400), (wrap64 (x7_4 + 1)), zq6, H', ⟨by have := HK1.out; have := HK2.out; have := HJ35.out; have := HK4.out; omega⟩, ⟨by (with_reducible repeat (first | apply Kd.R_alloc | apply Kd.R_drewN | apply Kd.R_drew)); exact Kd.R_mono HO402.out (fun _ hk => trivial)⟩, ⟨by (with_reducible repeat (first | refine blk_drewN ?_ _ | refine blk_drew ?_ | refine blk_alloc ?_ _)); exact BK336.out⟩, ⟨by repeat (first | (with_reducible first | exact HB.out | apply below_alloc | apply pw_below_drewN | apply below_drew1 | refine below_set ?_ GE336.out) | exact HB.out)⟩⟩
                        ·rw [if_neg c72] at H
                         exact absurd H zq14
                       ·rw [if_neg c70] at H
                        exact absurd H zq14
                     ·rw [if_neg c58] at H
                      have c58b0 : decide (x7_4 < ((rd_L3 l0_3 x5_2).length : Int)) = false := decide_eq_false c58
                      clear c58
                      have H' := zA H
                      clear H
                      have hcz77_0 : wr.cell? ⟨gb336, 0, none⟩ = some (.int .i64 a0_0) := (blk_cell BK336.out 0).trans rfl
                      have hcz77_1 : wr.cell? ⟨gb336, 1, none⟩ = some (.slice A0_1 l0_1.length c0_1) := (blk_cell BK336.out 1).trans rfl
                      have hcz77_2 : wr.cell? ⟨gb336, 2, none⟩ = some (.slice (some ad369) l0_2.length c0_2) := (blk_cell BK336.out 2).trans rfl
                      have hcz77_3 : wr.cell? ⟨gb336, 3, none⟩ = some (.slice (some ad377) l0_3.length c0_3) := (blk_cell BK336.out 3).trans rfl
                      have hfz77_0 := blk_frozen BK336.out 0
                      have hfz77_1 := blk_frozen BK336.out 1
                      have hfz77_2 := blk_frozen BK336.out 2
                      have hfz77_3 := blk_frozen BK336.out 3
                      have p384 : 0 ≤ (x5_2 : Int) := of_decide_eq_true zq4
                      have q384 : x5_2 < (l0_3.length : Int) := of_decide_eq_true zq4
                      obtain ⟨ad384, A384_0, c384_0, e384, hx384_0, hl384_0, hi384_0⟩ := at_L3 HR0_3.out x5_2 p384 q384
                      obtain rfl : ad377 = ad384 := (by injection e384)
                      replace hx384_0 := (HB.out.cell (World.block_lt_of_cell? w _ hx384_0)).trans hx384_0
                      have HR384_0 := zA hi384_0
                      have HC384_0 := zA hl384_0
                      clear hi384_0 hl384_0
                      replace p384 := eq_true p384
                      replace q384 := eq_true q384
                      go_wp2
                      go_roundg k4
                      case measure => have := HK1.out; have := HK2.out; have := HJ35.out; have := HK4.out; omega
                      case rel => exact ⟨(x3_4), (wrap64 (x5_2 + 1)), zq6, H', ⟨by have := HK1.out; have := HK2.out; have := HJ35.out; have := HK4.out; omega⟩, ⟨zq15⟩, ⟨by (with_reducible repeat (first | refine blk_drewN ?_ _ | refine blk_drew ?_ | refine blk_alloc ?_ _)); exact BK336.out⟩, ⟨by repeat (first | (with_reducible first | exact HB.out | apply below_alloc | apply pw_below_drewN | apply below_drew1 | refine below_set ?_ GE336.out) | exact HB.out)⟩⟩
                    ·rw [if_neg c57] at H
                     exact absurd H zq14
                   ·rw [if_neg c56] at H
                    exact absurd H zq14
                ·rw [if_neg c48] at H
                 exact absurd H zq14
               ·rw [if_neg c46] at H
                exact absurd H zq14
              ·rw [if_neg c45] at H
               exact absurd H zq14
             ·rw [if_neg c44] at H
              exact absurd H zq14
          ·rw [if_neg c35] at H
           exact absurd H zq14
         ·rw [if_neg c34] at H
          have c34b0 : decide (x5_2 < (l0_2.length : Int)) = false := decide_eq_false c34
          clear c34
          obtain rfl := Option.some.inj H
          have hcz78_0 : wr.cell? ⟨gb336, 0, none⟩ = some (.int .i64 a0_0) := (blk_cell BK336.out 0).trans rfl
          have hcz78_1 : wr.cell? ⟨gb336, 1, none⟩ = some (.slice A0_1 l0_1.length c0_1) := (blk_cell BK336.out 1).trans rfl
          have hcz78_2 : wr.cell? ⟨gb336, 2, none⟩ = some (.slice A0_2 l0_2.length c0_2) := (blk_cell BK336.out 2).trans rfl
          have hcz78_3 : wr.cell? ⟨gb336, 3, none⟩ = some (.slice A0_3 l0_3.length c0_3) := (blk_cell BK336.out 3).trans rfl
          have hfz78_0 := blk_frozen BK336.out 0
          have hfz78_1 := blk_frozen BK336.out 1
          have hfz78_2 := blk_frozen BK336.out 2
          have hfz78_3 := blk_frozen BK336.out 3
          go_wp2
          go_ret
          exact ⟨_, zq9, zq15, by repeat (first | (with_reducible first | exact HB.out | apply below_alloc | apply pw_below_drewN | apply below_drew1 | refine below_set ?_ GE336.out) | exact HB.out)⟩
      ·rw [if_neg c29] at H
       exact absurd H zq14
  ·rw [if_neg c5] at H
   exact absurd H zq14
 ·rw [if_neg c3] at H
  exact absurd H zq14
def spec_l4checksum.l0 : Nat → List Int → Int → Int → Option (List Int)
 | 0, _, _, _ => none
 | k + 1, x0, x3, x4 => if x4 < (x0.length : Int) then (if 0 ≤ x4 then (spec_l4checksum.l0 k x0 (Int.tmod (wrap64 ((Go.bits .xor .i64 x3 (wrap64 (rd x0 x4))) * 16777619)) 4294967296) (wrap64 (x4 + 1))) else (none)) else (some (([(wrap64 (Int.tdiv x3 16777216)) % 256, (Int.tmod (wrap64 (Int.tdiv x3 65536)) 256) % 256, (Int.tmod (wrap64 (Int.tdiv x3 256)) 256) % 256, (Int.tmod x3 256) % 256] : List Int)))
def spec_l4checksum.f (k : Nat) (l0 : List Int) : Option (List Int) := spec_l4checksum.l0 k l0 2166136261 0
theorem spec_l4checksum.mono_l : ∀ k, (∀ y0 y1 y2, LeO (spec_l4checksum.l0 k y0 y1 y2) (spec_l4checksum.l0 (k + 1) y0 y1 y2))
 | 0 => fun _ _ _ r h => by simp [spec_l4checksum.l0] at h
 | k + 1 => by
  have ih0 := spec_l4checksum.mono_l k
  ·intro y0 y1 y2
   unfold spec_l4checksum.l0
   repeat' first
   | (with_reducible exact ih0 _ _ _)
   | (with_reducible exact LeO.refl _)
   | (with_reducible exact LeO.none _)
   | (with_reducible refine LeO.ite ?_ ?_)
   | (with_reducible refine LeO.bind ?_ (fun _ => ?_))
   | exact ih0 _ _ _
   | exact LeO.none _
   | refine LeO.ite ?_ ?_
   | refine LeO.bind ?_ (fun _ => ?_)
theorem spec_l4checksum.mono : ∀ a0 k, LeO (spec_l4checksum.f k a0) (spec_l4checksum.f (k + 1) a0) := by
 intro a0 k
 have ih0 := spec_l4checksum.mono_l k
 unfold spec_l4checksum.f
 repeat' first
   | (with_reducible exact ih0 _ _ _)
   | (with_reducible exact LeO.refl _)
   | (with_reducible exact LeO.none _)
   | (with_reducible refine LeO.ite ?_ ?_)
   | (with_reducible refine LeO.bind ?_ (fun _ => ?_))
   | exact ih0 _ _ _
   | exact LeO.none _
   | refine LeO.ite ?_ ?_
   | refine LeO.bind ?_ (fun _ => ?_)
set_option maxHeartbeats 8000000 in
set_option maxRecDepth 100000 in
theorem spec_l4checksum.calls (k : Nat) (A0 : Option Addr) (c0 : Nat) (l0 : List Int) (r : List Int) (w : World) (hr0 : Kd.C (Kd.int .u8) w A0 l0.length l0) (hc0 : l0.length ≤ c0) (h : spec_l4checksum.f k l0 = some r) :
  Calls Try.prog 141 #[.slice A0 l0.length c0] w fun e w' => ∃ v0_ : Value, e = .returned (v0_) ∧ Kd.R (Kd.int .u8) 5 w' w.heap.size (fun _ => True) v0_ r ∧ Below w.heap.size w w' := by
 have HR0 := zA hr0
 have HC0 := zA hc0
 clear hr0 hc0
 have HB := zA (Below.refl w.heap.size w)
 have H : (spec_l4checksum.l0 k l0 2166136261 0) = some r := h
 clear h
 have H' := zA H
 clear H
 go_enter Try.func141, Try.ntmps141
 go_wp2
 go_loopg [3, 4] k (fun kq v3 v4 w' => ∃ (x3_1 : Int) (x4_1 : Int), v3 = .int .i64 x3_1 ∧ v4 = .int .i64 x4_1 ∧ Aside0 (spec_l4checksum.l0 kq l0 x3_1 x4_1 = some r) ∧ Aside0 (kq ≤ k) ∧ Aside0 (Below w.heap.size w w'))
 case atStart => exact ⟨(2166136261), (0), zq6, zq6, H', ⟨Nat.le_refl _⟩, ⟨zq0⟩⟩
 case round =>
  clear H'
  try clear c1
  obtain ⟨x3_1, x4_1, rfl, rfl, HA, HK1, HB⟩ := hrel
  cases gk with
  | zero => exact absurd HA.out (by simp [spec_l4checksum.l0])
  | succ k1 =>
   have H := HA.out
   clear HA
   simp only [spec_l4checksum.l0] at H
   by_cases c2 : x4_1 < (l0.length : Int)
   ·rw [if_pos c2] at H
    have c2b0 : decide (x4_1 < (l0.length : Int)) = true := decide_eq_true c2
    clear c2
    by_cases c3 : 0 ≤ x4_1
    ·rw [if_pos c3] at H
     have c3b0 : decide (0 ≤ x4_1) = true := decide_eq_true c3
     clear c3
     have H' := zA H
     clear H
     have p403 : 0 ≤ (x4_1 : Int) := of_decide_eq_true zq4
     have q403 : x4_1 < (l0.length : Int) := of_decide_eq_true zq4
     obtain ⟨ad403, e403, hx403_0⟩ := Kd.at_int HR0.out x4_1 p403 q403
     cases e403
     replace hx403_0 := (HB.out.cell (World.block_lt_of_cell? w _ hx403_0)).trans hx403_0
     replace p403 := eq_true p403
     replace q403 := eq_true q403
     go_wp2
     go_roundg k1
     case measure => have := HK1.out; omega
     case rel => exact ⟨(Int.tmod (wrap64 ((Go.bits .xor .i64 x3_1 (wrap64 (rd l0 x4_1))) * 16777619)) 4294967296), (wrap64 (x4_1 + 1)), zq6, zq6, H', ⟨zq39⟩, ⟨zq0⟩⟩
    ·rw [if_neg c3] at H
     exact absurd H zq14
   ·rw [if_neg c2] at H
    have c2b0 : decide (x4_1 < (l0.length : Int)) = false := decide_eq_false c2
    clear c2
    obtain ⟨y404, hy404⟩ : ∃ y_ : List Int, y_ = (([(wrap64 (Int.tdiv x3_1 16777216)) % 256, (Int.tmod (wrap64 (Int.tdiv x3_1 65536)) 256) % 256, (Int.tmod (wrap64 (Int.tdiv x3_1 256)) 256) % 256, (Int.tmod x3_1 256) % 256] : List Int)) := ⟨_, rfl⟩
    replace H : (some y404) = some r := by first | (rw [hy404]; with_reducible exact H) | (have H2_ := (Option.bind_some _ _).symm.trans H; rw [hy404]; with_reducible exact H2_) | (have H2_ := (Option.bind_some _ _).symm.trans H; with_reducible exact H2_) | with_reducible exact H | (rw [hy404]; exact H) | exact H
    have Ny404 := zA hy404
    clear hy404
    obtain rfl := Option.some.inj H
    go_wp2_with (first | ((with_reducible refine gate_dst (N := 34) rfl ?_); refine Kd.R_lit (Kd.int .u8) _ 5 ?hg (N := 34) ?hd (xs := ([(wrap64 (Int.tdiv x3_1 16777216)) % 256, (Int.tmod (wrap64 (Int.tdiv x3_1 65536)) 256) % 256, (Int.tmod (wrap64 (Int.tdiv x3_1 256)) 256) % 256, (Int.tmod x3_1 256) % 256] : List Int)) (inner := [.int .u8 ((wrap64 (Int.tdiv x3_1 16777216)) % 256), .int .u8 ((Int.tmod (wrap64 (Int.tdiv x3_1 65536)) 256) % 256), .int .u8 ((Int.tmod (wrap64 (Int.tdiv x3_1 256)) 256) % 256), .int .u8 ((Int.tmod x3_1 256) % 256)]) (ok := fun _ => True) (okp := fun _ => True) ?hr ?hp (fun _ hk => hk) trivial (Below.refl _ _) (Nat.le_refl _) zq14 ?_; (case hd => rfl); (case hg => rfl); (case hr => first | (go_simp; done) | (go_simp; rfl)); (case hp => exact (Reps.one (show Kd.M (Kd.int .u8) _ _ _ ((wrap64 (Int.tdiv x3_1 16777216)) % 256) [.int .u8 ((wrap64 (Int.tdiv x3_1 16777216)) % 256)] from rfl) (Reps.one (show Kd.M (Kd.int .u8) _ _ _ ((Int.tmod (wrap64 (Int.tdiv x3_1 65536)) 256) % 256) [.int .u8 ((Int.tmod (wrap64 (Int.tdiv x3_1 65536)) 256) % 256)] from rfl) (Reps.one (show Kd.M (Kd.int .u8) _ _ _ ((Int.tmod (wrap64 (Int.tdiv x3_1 256)) 256) % 256) [.int .u8 ((Int.tmod (wrap64 (Int.tdiv x3_1 256)) 256) % 256)] from rfl) (Reps.one (show Kd.M (Kd.int .u8) _ _ _ ((Int.tmod x3_1 256) % 256) [.int .u8 ((Int.tmod x3_1 256) % 256)] from rfl) (Reps.none _ _)))))); intro v405 w4 ho5 hb hg_ hnew_; clear hg_ hnew_; (first | rw [← Ny404.out] at ho5 | (simp only [Int.reduceToNat] at ho5; rw [← Ny404.out] at ho5)); have n0_ := zA (Kd.R_lower ho5 (below_size zq0)); have n1_ := zA (below_step zq0 hb); clear HB; have HO406 := n0_; have HB := n1_; clear n0_ n1_; clear hb ho5))
    go_ret
    exact ⟨_, zq9, by (with_reducible repeat (first | apply Kd.R_alloc | apply Kd.R_drewN | apply Kd.R_drew)); exact HO406.out, zq0⟩
def spec_l4encode.f (k : Nat) (a0_0 : Int) (l0_1 : List (List Int)) (l0_2 : List Int) (l0_3 : List (List Int)) : Option (List Int) := (spec_l4body.f k a0_0 l0_1 l0_2 l0_3).bind fun t408 => ((spec_l4checksum.f k t408).bind fun t411 => (if t408.length + t411.length < 140737488355328 then (some (t408 ++ t411)) else (none)))
theorem spec_l4encode.mono : ∀ a0 a1 a2 a3 k, LeO (spec_l4encode.f k a0 a1 a2 a3) (spec_l4encode.f (k + 1) a0 a1 a2 a3) := by
 intro a0 a1 a2 a3 k
 unfold spec_l4encode.f
 repeat' first
   | (with_reducible exact spec_l4body.mono _ _ _ _ _)
   | (with_reducible exact spec_l4checksum.mono _ _)
   | (with_reducible exact LeO.refl _)
   | (with_reducible exact LeO.none _)
   | (with_reducible refine LeO.ite ?_ ?_)
   | (with_reducible refine LeO.bind ?_ (fun _ => ?_))
   | exact spec_l4body.mono _ _ _ _ _
   | exact spec_l4checksum.mono _ _
   | exact LeO.none _
   | refine LeO.ite ?_ ?_
   | refine LeO.bind ?_ (fun _ => ?_)
set_option maxHeartbeats 8000000 in
set_option maxRecDepth 100000 in
theorem spec_l4encode.calls (k : Nat) (a0_0 : Int) (A0_1 : Option Addr) (c0_1 : Nat) (l0_1 : List (List Int)) (A0_2 : Option Addr) (c0_2 : Nat) (l0_2 : List Int) (A0_3 : Option Addr) (c0_3 : Nat) (l0_3 : List (List Int)) (r : List Int) (w : World) (hr0_1 : Kd.C (Kd.slice 5 (Kd.int .u8)) w A0_1 l0_1.length l0_1) (hc0_1 : l0_1.length ≤ c0_1) (hr0_2 : Kd.C (Kd.int .i64) w A0_2 l0_2.length l0_2) (hc0_2 : l0_2.length ≤ c0_2) (hr0_3 : Kd.C (Kd.slice 3 (Kd.int .i64)) w A0_3 l0_3.length l0_3) (hc0_3 : l0_3.length ≤ c0_3) (h : spec_l4encode.f k a0_0 l0_1 l0_2 l0_3 = some r) :
  Calls Try.prog 102 #[.agg #[.int .i64 a0_0, .slice A0_1 l0_1.length c0_1, .slice A0_2 l0_2.length c0_2, .slice A0_3 l0_3.length c0_3]] w fun e w' => ∃ v0_ : Value, e = .returned (v0_) ∧ Kd.R (Kd.int .u8) 5 w' w.heap.size (fun _ => True) v0_ r ∧ Below w.heap.size w w' := by
 have hu50 := Try.underlying50
 have HR0_1 := zA hr0_1
 have HC0_1 := zA hc0_1
 clear hr0_1 hc0_1
 have HR0_2 := zA hr0_2
 have HC0_2 := zA hc0_2
 clear hr0_2 hc0_2
 have HR0_3 := zA hr0_3
 have HC0_3 := zA hc0_3
 clear hr0_3 hc0_3
 have HB := zA (Below.refl w.heap.size w)
 have H : ((spec_l4body.f k a0_0 l0_1 l0_2 l0_3).bind fun t408 => ((spec_l4checksum.f k t408).bind fun t411 => (if t408.length + t411.length < 140737488355328 then (some (t408 ++ t411)) else (none)))) = some r := h
 clear h
 replace H := Option.bind_eq_some_iff.mp H
 obtain ⟨t408, A20, H⟩ := H
 replace H : ((spec_l4checksum.f k t408).bind fun t411 => (if t408.length + t411.length < 140737488355328 then (some (t408 ++ t411)) else (none))) = some r := H
 have A2 := zA A20
 clear A20
 replace H := Option.bind_eq_some_iff.mp H
 obtain ⟨t411, A30, H⟩ := H
 replace H : (if t408.length + t411.length < 140737488355328 then (some (t408 ++ t411)) else (none)) = some r := H
 have A3 := zA A30
 clear A30
 by_cases c4 : t408.length + t411.length < 140737488355328
 ·rw [if_pos c4] at H
  have LMc4 := zA c4
  clear c4
  obtain ⟨y414, hy414⟩ : ∃ y_ : List Int, y_ = (t408 ++ t411) := ⟨_, rfl⟩
  replace H : (some y414) = some r := by first | (rw [hy414]; with_reducible exact H) | (have H2_ := (Option.bind_some _ _).symm.trans H; rw [hy414]; with_reducible exact H2_) | (have H2_ := (Option.bind_some _ _).symm.trans H; with_reducible exact H2_) | with_reducible exact H | (rw [hy414]; exact H) | exact H
  have Ny414 := zA hy414
  clear hy414
  obtain rfl := Option.some.inj H
  go_enter Try.func102, Try.ntmps102
  go_wp2_with (first | ((with_reducible refine gate_dst (N := 1) rfl ?_); refine box_event ?hg (N := 1) ?hd (cs := #[.int .i64 a0_0, .slice A0_1 l0_1.length c0_1, .slice A0_2 l0_2.length c0_2, .slice A0_3 l0_3.length c0_3]) (t := 50) ?hr ?_; (case hd => rfl); (case hg => rfl); (case hr => first | (go_simp; done) | (go_simp; rfl)); intro gb407 hg w5 hbox hb; have n0_ := zA (below_step zq0 hb); have n1_ := zA (hbox); have n2_ := zA ((by rw [hg]; exact (below_size zq0) : w.heap.size ≤ gb407)); have n3_ := zA ((by rw [hg]; exact (below_size zq0) : w.heap.size ≤ gb407)); clear HB; have HB := n0_; have BK407 := n1_; have GW407 := n2_; have GE407 := n3_; clear n0_ n1_ n2_ n3_; clear hb hbox hg; have hcz6_0 : w5.cell? ⟨gb407, 0, none⟩ = some (.int .i64 a0_0) := (blk_cell BK407.out 0).trans rfl; have hcz6_1 : w5.cell? ⟨gb407, 1, none⟩ = some (.slice A0_1 l0_1.length c0_1) := (blk_cell BK407.out 1).trans rfl; have hcz6_2 : w5.cell? ⟨gb407, 2, none⟩ = some (.slice A0_2 l0_2.length c0_2) := (blk_cell BK407.out 2).trans rfl; have hcz6_3 : w5.cell? ⟨gb407, 3, none⟩ = some (.slice A0_3 l0_3.length c0_3) := (blk_cell BK407.out 3).trans rfl; have hfz6_0 := blk_frozen BK407.out 0; have hfz6_1 := blk_frozen BK407.out 1; have hfz6_2 := blk_frozen BK407.out 2; have hfz6_3 := blk_frozen BK407.out 3) | ((with_reducible refine gate_callee (f := 120) rfl ?_); refine goesL_ (some 5) rfl rfl Try.func120 zq12 rfl #[.agg #[.int .i64 a0_0, .slice A0_1 l0_1.length c0_1, .slice A0_2 l0_2.length c0_2, .slice A0_3 l0_3.length c0_3]] rfl zq2 ?_; (with_reducible refine (spec_l4body.calls k a0_0 _ _ l0_1 _ _ l0_2 _ _ l0_3 t408 _ ?side1 ?side2 ?side3 ?side4 ?side5 ?side6 A2.out).mono ?_); (case side1 => repeat (first | exact (Kd.C_below HR0_1.out HB.out) | (with_reducible refine Kd.C_alloc ?_ _) | (with_reducible refine Kd.C_drewN ?_ _) | (with_reducible refine Kd.C_drew ?_))); (case side2 => exact HC0_1.out); (case side3 => repeat (first | exact (Kd.C_below HR0_2.out HB.out) | (with_reducible refine Kd.C_alloc ?_ _) | (with_reducible refine Kd.C_drewN ?_ _) | (with_reducible refine Kd.C_drew ?_))); (case side4 => exact HC0_2.out); (case side5 => repeat (first | exact (Kd.C_below HR0_3.out HB.out) | (with_reducible refine Kd.C_alloc ?_ _) | (with_reducible refine Kd.C_drewN ?_ _) | (with_reducible refine Kd.C_drew ?_))); (case side6 => exact HC0_3.out); rintro e w7 ⟨v409, rfl, ho0, hb⟩; refine ⟨_, rfl, ?_⟩; have n0_ := zA (Kd.R_lower ho0 (below_size (by repeat (first | (with_reducible first | exact HB.out | apply below_alloc | apply pw_below_drewN | apply below_drew1 | refine below_set ?_ GE407.out) | exact HB.out)))); have n1_ := zA (blk_below (g := gb407) (o := .cells #[.int .i64 a0_0, .slice A0_1 l0_1.length c0_1, .slice A0_2 l0_2.length c0_2, .slice A0_3 l0_3.length c0_3] 50 (0, 0)) (by (with_reducible repeat (first | refine blk_drewN ?_ _ | refine blk_drew ?_ | refine blk_alloc ?_ _)); exact BK407.out) hb); have n2_ := zA (below_step (by repeat (first | (with_reducible first | exact HB.out | apply below_alloc | apply pw_below_drewN | apply below_drew1 | refine below_set ?_ GE407.out) | exact HB.out)) hb); clear BK407; clear HB; have HO410 := n0_; have BK407 := n1_; have HB := n2_; clear n0_ n1_ n2_; (try clear hb); (try clear hb2); (try clear hk); (try clear hi); (try clear ho0); obtain ⟨Ao8, co8, eo8⟩ := Kd.R_slice HO410.out; subst eo8) | ((with_reducible refine gate_callee (f := 141) rfl ?_); refine goesL_ (some 8) rfl rfl Try.func141 zq12 rfl #[.slice Ao8 t408.length co8] rfl zq2 ?_; (with_reducible refine (spec_l4checksum.calls k _ _ t408 t411 _ ?side1 ?side2 A3.out).mono ?_); (case side1 => repeat (first | exact (Kd.R_reads' HO410.out).2.2 | (with_reducible refine Kd.C_alloc ?_ _) | (with_reducible refine Kd.C_drewN ?_ _) | (with_reducible refine Kd.C_drew ?_))); (case side2 => exact (Kd.R_reads' HO410.out).2.1); rintro e w9 ⟨v412, rfl, ho0, hb⟩; refine ⟨_, rfl, ?_⟩; have n0_ := zA (Kd.R_elder' (by (with_reducible repeat (first | apply Kd.R_alloc | apply Kd.R_drewN | apply Kd.R_drew)); exact HO410.out) (Kd.R_base ho0) hb); have n1_ := zA (Kd.R_lower (Kd.R_new' ho0 (Kd.R_lt (by (with_reducible repeat (first | apply Kd.R_alloc | apply Kd.R_drewN | apply Kd.R_drew)); exact HO410.out))) (below_size (by repeat (first | (with_reducible first | exact HB.out | apply below_alloc | apply pw_below_drewN | apply below_drew1 | refine below_set ?_ GE407.out) | exact HB.out)))); have n2_ := zA (blk_below (g := gb407) (o := .cells #[.int .i64 a0_0, .slice A0_1 l0_1.length c0_1, .slice A0_2 l0_2.length c0_2, .slice A0_3 l0_3.length c0_3] 50 (0, 0)) (by (with_reducible repeat (first | refine blk_drewN ?_ _ | refine blk_drew ?_ | refine blk_alloc ?_ _)); exact BK407.out) hb); have n3_ := zA (below_step (by repeat (first | (with_reducible first | exact HB.out | apply below_alloc | apply pw_below_drewN | apply below_drew1 | refine below_set ?_ GE407.out) | exact HB.out)) hb); clear HO410; clear BK407; clear HB; have HO410 := n0_; have HO413 := n1_; have BK407 := n2_; have HB := n3_; clear n0_ n1_ n2_ n3_; (try clear hb); (try clear hb2); (try clear hk); (try clear hi); (try clear ho0); obtain ⟨Ao11, co11, eo11⟩ := Kd.R_slice HO413.out; subst eo11) | ((with_reducible refine gate_builtin (b := .append) (xs := #[.tmp 6, .tmp 8]) rfl ?_); at_builtin; refine Kd.R_append_rows (Kd.int .u8) (w0 := w) w.heap.size rfl (.tmp 6) (.tmp 8) 33 5 (.int .u8 0) 1 rfl Try.underlying33 info5 rfl zq13 zq3 (.slice Ao8 t408.length co8) t408 t411 _ _ _ (fun k_ => some k_ ≠ (.slice Ao11 t411.length co11 : Value).ownBlock) (fun _ => False) rfl rfl ?aO ?aR (fun _ _ h => h) (fun _ h => h.elim) ?aF ?aB ?aS ?aL ?_; (case aR => repeat (first | exact (Kd.R_reads' HO413.out).2.2 | (with_reducible refine Kd.C_alloc ?_ _) | (with_reducible refine Kd.C_drewN ?_ _) | (with_reducible refine Kd.C_drew ?_))); (case aB => exact (by repeat (first | (with_reducible first | exact HB.out | apply below_alloc | apply pw_below_drewN | apply below_drew1 | refine below_set ?_ GE407.out) | exact HB.out))); (case aF => exact (fun k_ hk => Kd.fresh' (Kd.R_lt (by (with_reducible repeat (first | apply Kd.R_alloc | apply Kd.R_drewN | apply Kd.R_drew)); exact HO413.out)) k_ hk)); (case aO => exact (by (with_reducible repeat (first | apply Kd.R_alloc | apply Kd.R_drewN | apply Kd.R_drew)); exact Kd.R_mono HO410.out (fun _ hk => hk.2))); (case aS => exact (below_size (by repeat (first | (with_reducible first | exact HB.out | apply below_alloc | apply pw_below_drewN | apply below_drew1 | refine below_set ?_ GE407.out) | exact HB.out)))); (case aL => have := LMc4.out; omega); intro v415 w10 ho hb hg hat; rw [← Ny414.out] at ho; have n0_ := zA (blk_grown (g := gb407) (o := .cells #[.int .i64 a0_0, .slice A0_1 l0_1.length c0_1, .slice A0_2 l0_2.length c0_2, .slice A0_3 l0_3.length c0_3] 50 (0, 0)) (by (with_reducible repeat (first | refine blk_drewN ?_ _ | refine blk_drew ?_ | refine blk_alloc ?_ _)); exact BK407.out) hg (Kd.R_ne HO410.out BK407.out zq13)); have n1_ := zA (Kd.R_after (ok := (fun _ => True)) (by (with_reducible repeat (first | apply Kd.R_alloc | apply Kd.R_drewN | apply Kd.R_drew)); exact HO413.out) hg hat); have n2_ := zA (hb); have n3_ := zA (ho); clear BK407; clear HO413; clear HB; clear HO410; have BK407 := n0_; have HO413 := n1_; have HB := n2_; have HO416 := n3_; clear n0_ n1_ n2_ n3_; clear ho hb hg hat))
  go_ret
  exact ⟨_, zq9, by (with_reducible repeat (first | apply Kd.R_alloc | apply Kd.R_drewN | apply Kd.R_drew)); exact Kd.R_mono HO416.out (fun _ hk => trivial), by repeat (first | (with_reducible first | exact HB.out | apply below_alloc | apply pw_below_drewN | apply below_drew1 | refine below_set ?_ GE407.out) | exact HB.out)⟩
 ·rw [if_neg c4] at H
  exact absurd H zq14
end Go.Proofs.Ytmgmdnmfalepkaa.L
