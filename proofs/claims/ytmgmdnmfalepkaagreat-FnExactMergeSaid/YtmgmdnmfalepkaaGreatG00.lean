/- Proofs that stand often, named once. -/
import Derived.Below
import Derived.Deep.Draws
import Derived.Deep.AppendLies
import Derived.Maps.AppendAt
import Derived.OwnWalk
import Derived.Laws.BytesArg
import Derived.Laws.MakeOwn
import Derived.Laws.OwnMore
import Derived.Deep.OwnRows
import Derived.Tactics
import Derived.Lib.ConvBytes
import Derived.Laws.Slices
import Derived.WalkKit
import Derived.KernelRfl
import Derived.RowKit3
import Derived.Deep.LoopGhost
import Derived.Deep.QuietTactic
import Derived.BigQuiet
import Derived.WideLaws
import Derived.Deep.DeepCutAuto
import Derived.Deep.CutBlock
import Derived.Deep.RegionHeld3
import Derived.Laws.Rows
import Derived.Lib.AppendStr
import Derived.ArgAppend
import Derived.Laws.IdiomCopy
import Derived.RowKit
namespace Go.Proofs
open Go.RowKit
set_option linter.unusedVariables false
theorem zq0 {p : Prop} (h : p := by repeat (first | (with_reducible first | exact HB.out | apply below_alloc | apply pw_below_drewN | apply below_drew1) | exact HB.out)) : p := h
theorem zq1 {p : Prop} (h : p := by omega) : p := h
theorem zq2 {p : Prop} (h : p := by first | (with_reducible assumption) | assumption) : p := h
theorem zq3 {p : Prop} (h : p := by repeat (first | exact Below.refl _ _ | apply below_alloc | apply below_drew1 | apply pw_below_drewN)) : p := h
theorem zq4 {p : Prop} (h : p := by first | rfl | (simp; done) | (simp [*]; done)) : p := h
theorem zq5 {p : Prop} (h : p := by kernel_rfl) : p := h
theorem zq6 {p : Prop} (h : p := by (try simp only [List.map_toArray, List.map_cons, List.map_nil]); first | done | rfl | (simp only [List.length_drop, List.length_take]; rfl)) : p := h
theorem zq7 {p : Prop} (h : p := by (with_reducible repeat (first | apply Kd.R_alloc | apply Kd.R_drewN | apply Kd.R_drew)); exact HO_5.out) : p := h
theorem zq8 {p : Prop} (h : p := by repeat (first | exact Drawn0.refl _ | apply Drawn0.step)) : p := h
theorem zq9 {p : Prop} (h : p := by first | rfl | (simp [errW_none, errW_some] <;> rfl) | (simp [*, errW_none, errW_some] <;> rfl)) : p := h
theorem zq10 {p : Prop} (h : p := by (with_reducible repeat (first | apply Kd.R_alloc | apply Kd.R_drewN | apply Kd.R_drew)); exact HO_3.out) : p := h
theorem zq11 {p : Prop} (h : p := by (with_reducible repeat (first | apply Kd.R_alloc | apply Kd.R_drewN | apply Kd.R_drew)); exact HO_4.out) : p := h
theorem zq12 {p : Prop} (h : p := by simp) : p := h
theorem zq13 {p : Prop} (h : p := by (with_reducible repeat (first | apply Kd.R_alloc | apply Kd.R_drewN | apply Kd.R_drew)); exact HO_6.out) : p := h
theorem zq14 {p : Prop} (h : p := by first | exact Kd.S_nil _ _ _ _ _ | exact Kd.N_nil _ _ _ _ _ | exact Kd.V_nil _ _ _ _ _ | exact Kd.Q_nil _ _ _ _ _ | exact Kd.R_nil _ _ _ _ _) : p := h
theorem zq15 {p : Prop} (h : p := by decide) : p := h
theorem zq16 {p : Prop} (h : p := by rfl) : p := h
theorem zq17 {p : Prop} (h : p := by repeat (first | exact Below.refl _ _ | exact HB5_.out | apply below_alloc | apply below_drew1 | apply pw_below_drewN)) : p := h
theorem zq18 {p : Prop} (h : p := by (with_reducible repeat (first | apply Kd.R_alloc | apply Kd.R_drewN | apply Kd.R_drew)); exact Kd.R_mono HO_3.out (fun _ hk => hk.2)) : p := h
theorem zq19 {p : Prop} (h : p := by repeat (first | exact HG3.out | exact Below.refl _ _ | apply below_alloc | apply below_drew1 | apply pw_below_drewN)) : p := h
theorem zq20 {p : Prop} (h : p := by first | exact Kd.R_nil _ _ _ _ _ | exact Kd.N_nil _ _ _ _ _ | exact Kd.V_nil _ _ _ _ _ | exact Kd.Q_nil _ _ _ _ _ | exact Kd.S_nil _ _ _ _ _) : p := h
theorem zq21 {p : Prop} (h : p := by have := HK1.out; have := HJ2.out; have := HJ5.out; have := HJ11.out; have := HJ17.out; omega) : p := h
theorem zq22 {p : Prop} (h : p := by (with_reducible repeat (first | apply Kd.R_alloc | apply Kd.R_drewN | apply Kd.R_drew)); exact HO268.out) : p := h
theorem zq23 {p : Prop} (h : p := by (with_reducible repeat (first | apply Kd.R_alloc | apply Kd.R_drewN | apply Kd.R_drew)); exact HO299.out) : p := h
theorem zq24 {p : Prop} (h : p := by (with_reducible repeat (first | apply Kd.S_alloc | apply Kd.S_drewN | apply Kd.S_drew)); exact HO_3.out) : p := h
theorem zq25 {p : Prop} (h : p := by repeat (first | (with_reducible first | exact HK.out | apply Kept.alloc | apply Kept.drewN | apply Kept.drew) | exact HK.out)) : p := h
theorem zq26 {p : Prop} (h : p := by repeat (first | exact HG4.out | exact Below.refl _ _ | apply below_alloc | apply below_drew1 | apply pw_below_drewN)) : p := h
theorem zq27 {p : Prop} (h : p := by rw [hw_]; repeat (first | exact Below.refl _ _ | apply below_alloc | apply below_drew1 | apply pw_below_drewN)) : p := h
theorem zq28 {p : Prop} (h : p := by first | rfl | (simp; done) | (simp; rfl)) : p := h
theorem zq29 {p : Prop} (h : p := by (with_reducible repeat (first | apply Kd.R_alloc | apply Kd.R_drewN | apply Kd.R_drew)); exact HO281.out) : p := h
theorem zq30 {p : Prop} (h : p := by (with_reducible repeat (first | apply Kd.R_alloc | apply Kd.R_drewN | apply Kd.R_drew)); exact HO214.out) : p := h
theorem zq31 {p : Prop} (h : p := by have h_ : (x4_1 : Int) < ((x3_1.length : Int) : Int) := of_decide_eq_true (by first | (with_reducible assumption) | assumption); first | exact h_ | (have e_ := (Kd.S_reads' HO_3.out).1; omega) | simpa using h_) : p := h
theorem zq32 {p : Prop} (h : p := by rw [List.length_drop, List.length_take]; have h_ : ((wrap64 (t349 + t348)) : Int) ≤ (l0.length : Int) := of_decide_eq_true (by first | (with_reducible assumption) | assumption); omega) : p := h
theorem zq33 {p : Prop} (h : p := by have := HK1.out; omega) : p := h
theorem zq34 {p : Prop} (h : p := by have := HK1.out; have := HJ15.out; have := HJ21.out; omega) : p := h
theorem zq35 {p : Prop} (h : p := by simp; omega) : p := h
theorem zq36 {p : Prop} (h : p := by (with_reducible repeat (first | apply Kd.R_alloc | apply Kd.R_drewN | apply Kd.R_drew)); exact HO271.out) : p := h
theorem zq37 {p : Prop} (h : p := by (with_reducible repeat (first | apply Kd.R_alloc | apply Kd.R_drewN | apply Kd.R_drew)); exact HO302.out) : p := h
theorem zq38 {p : Prop} (h : p := by first | rfl | (simp; done) | (simp only [← hji5] <;> (first | rfl | simp)) | (simp [*]; done)) : p := h
theorem zq39 {p : Prop} (h : p := by rw [List.length_take]; omega) : p := h
end Go.Proofs
