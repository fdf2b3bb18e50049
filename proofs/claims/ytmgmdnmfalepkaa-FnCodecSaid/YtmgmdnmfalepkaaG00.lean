/- Proofs that stand often, named once. -/
import Derived.Below
import Derived.Deep.Draws
import Derived.Deep.AppendLies
import Derived.Maps.AppendAt
import Derived.OwnWalk
import Derived.Laws.BytesArg
import Derived.Laws.MakeOwn
import Derived.Laws.OwnMore
import Derived.Deep.OwnRows
import Derived.Tactics
import Derived.Lib.ConvBytes
import Derived.Laws.Slices
import Derived.WalkKit
import Derived.KernelRfl
import Derived.RowKit3
import Derived.Deep.LoopGhost
import Derived.Deep.QuietTactic
import Derived.BigQuiet
import Derived.WideLaws
import Derived.Deep.DeepCutAuto
import Derived.Deep.CutBlock
import Derived.Deep.RegionHeld3
import Derived.Laws.Rows
import Derived.Lib.AppendStr
import Derived.ArgAppend
import Derived.Laws.IdiomCopy
import Derived.RowKit
namespace Go.Proofs
open Go.RowKit
set_option linter.unusedVariables false
theorem zq0 {p : Prop} (h : p := by repeat (first | (with_reducible first | exact HB.out | apply below_alloc | apply pw_below_drewN | apply below_drew1) | exact HB.out)) : p := h
theorem zq1 {p : Prop} (h : p := by repeat (first | (with_reducible first | exact HK.out | apply KeepBut.set_ | apply keep_drewN | apply keep_drew | apply keep_alloc) | exact HK.out)) : p := h
theorem zq2 {p : Prop} (h : p := by (try simp only [List.map_toArray, List.map_cons, List.map_nil]); first | done | rfl | (simp only [List.length_drop, List.length_take]; rfl)) : p := h
theorem zq3 {p : Prop} (h : p := by omega) : p := h
theorem zq4 {p : Prop} (h : p := by first | (with_reducible assumption) | assumption) : p := h
theorem zq5 {p : Prop} (h : p := by repeat (first | (with_reducible first | exact HI0.out | apply IsS168.alloc | apply IsS168.drewN | apply IsS168.drew | apply IsS168.set_1) | exact HI0.out)) : p := h
theorem zq6 {p : Prop} (h : p := by first | rfl | (simp; done) | (simp [*]; done)) : p := h
theorem zq7 {p : Prop} (h : p := by repeat (first | exact Below.refl _ _ | apply below_alloc | apply below_drew1 | apply pw_below_drewN)) : p := h
theorem zq8 {p : Prop} (h : p := by (with_reducible repeat (first | apply Kd.R_alloc | apply Kd.R_drewN | apply Kd.R_drew)); exact HO_5.out) : p := h
theorem zq9 {p : Prop} (h : p := by first | rfl | (simp [errW_none, errW_some] <;> rfl) | (simp [*, errW_none, errW_some] <;> rfl)) : p := h
theorem zq10 {p : Prop} (h : p := by repeat (first | exact Drawn0.refl _ | apply Drawn0.step)) : p := h
theorem zq11 {p : Prop} (h : p := by (with_reducible repeat (first | apply Kd.R_alloc | apply Kd.R_drewN | apply Kd.R_drew)); exact HO_4.out) : p := h
theorem zq12 {p : Prop} (h : p := by kernel_rfl) : p := h
theorem zq13 {p : Prop} (h : p := by decide) : p := h
theorem zq14 {p : Prop} (h : p := by simp) : p := h
theorem zq15 {p : Prop} (h : p := by (with_reducible repeat (first | apply Kd.R_alloc | apply Kd.R_drewN | apply Kd.R_drew)); exact HO_3.out) : p := h
theorem zq16 {p : Prop} (h : p := by first | exact Kd.S_nil _ _ _ _ _ | exact Kd.N_nil _ _ _ _ _ | exact Kd.V_nil _ _ _ _ _ | exact Kd.Q_nil _ _ _ _ _ | exact Kd.R_nil _ _ _ _ _) : p := h
theorem zq17 {p : Prop} (h : p := by (with_reducible repeat (first | apply Kd.S_alloc | apply Kd.S_drewN | apply Kd.S_drew)); exact HO_293001.out) : p := h
theorem zq18 {p : Prop} (h : p := by (with_reducible repeat (first | apply Kd.R_alloc | apply Kd.R_drewN | apply Kd.R_drew)); exact HO_293002.out) : p := h
theorem zq19 {p : Prop} (h : p := by (with_reducible repeat (first | apply Kd.R_alloc | apply Kd.R_drewN | apply Kd.R_drew)); exact HO_6.out) : p := h
theorem zq20 {p : Prop} (h : p := by (with_reducible repeat (first | apply Kd.R_alloc | apply Kd.R_drewN | apply Kd.R_drew)); exact HO746.out) : p := h
theorem zq21 {p : Prop} (h : p := by first | exact Kd.R_nil _ _ _ _ _ | exact Kd.N_nil _ _ _ _ _ | exact Kd.V_nil _ _ _ _ _ | exact Kd.Q_nil _ _ _ _ _ | exact Kd.S_nil _ _ _ _ _) : p := h
theorem zq22 {p : Prop} (h : p := by (with_reducible repeat (first | apply Kd.S_alloc | apply Kd.S_drewN | apply Kd.S_drew)); exact HO_6.out) : p := h
theorem zq23 {p : Prop} (h : p := by (with_reducible repeat (first | apply Kd.R_alloc | apply Kd.R_drewN | apply Kd.R_drew)); exact HO_9.out) : p := h
theorem zq24 {p : Prop} (h : p := by (with_reducible repeat (first | apply Kd.R_alloc | apply Kd.R_drewN | apply Kd.R_drew)); exact Kd.R_mono HO_3.out (fun _ hk => hk.2)) : p := h
theorem zq25 {p : Prop} (h : p := by (with_reducible repeat (first | apply Kd.S_alloc | apply Kd.S_drewN | apply Kd.S_drew)); exact HO781.out) : p := h
theorem zq26 {p : Prop} (h : p := by simp [Value.ownBlock]) : p := h
theorem zq27 {p : Prop} (h : p := by have := HK1.out; have := HJ2.out; have := HJ5.out; have := HJ11.out; have := HJ17.out; omega) : p := h
theorem zq28 {p : Prop} (h : p := by rw [List.length_append, List.length_singleton]; omega) : p := h
theorem zq29 {p : Prop} (h : p := by (with_reducible repeat (first | apply Kd.R_alloc | apply Kd.R_drewN | apply Kd.R_drew)); exact Kd.R_mono HL303_0.out (fun _ hk => ⟨⟨hk.2, ⟨hk.1.2.1, hk.1.2.2⟩⟩, hk.1.1⟩)) : p := h
theorem zq30 {p : Prop} (h : p := by repeat (first | (with_reducible first | exact HBW.out | apply below_alloc | apply pw_below_drewN | apply below_drew1) | exact HBW.out)) : p := h
theorem zq31 {p : Prop} (h : p := by (with_reducible repeat (first | apply Kd.R_alloc | apply Kd.R_drewN | apply Kd.R_drew)); exact HO342.out) : p := h
theorem zq32 {p : Prop} (h : p := by (with_reducible repeat (first | apply Kd.R_alloc | apply Kd.R_drewN | apply Kd.R_drew)); exact HO373.out) : p := h
theorem zq33 {p : Prop} (h : p := by first | rfl | (simp; done) | (simp; rfl)) : p := h
theorem zq34 {p : Prop} (h : p := by (with_reducible repeat (first | apply Kd.S_alloc | apply Kd.S_drewN | apply Kd.S_drew)); exact Kd.S_mono HO_293003.out (fun _ hk => ⟨⟨hk.1, hk.2.2⟩, hk.2.1⟩)) : p := h
theorem zq35 {p : Prop} (h : p := by (with_reducible repeat (first | apply Kd.S_alloc | apply Kd.S_drewN | apply Kd.S_drew)); exact Kd.S_mono HO_6.out (fun _ hk => ⟨⟨hk.2.1, hk.2.2⟩, hk.1⟩)) : p := h
theorem zq36 {p : Prop} (h : p := by (with_reducible repeat (first | apply Kd.R_alloc | apply Kd.R_drewN | apply Kd.R_drew)); exact Kd.R_mono HO_293002.out (fun _ hk => ⟨trivial, hk⟩)) : p := h
theorem zq37 {p : Prop} (h : p := by (with_reducible repeat (first | apply Kd.R_alloc | apply Kd.R_drewN | apply Kd.R_drew)); exact HO276.out) : p := h
theorem zq38 {p : Prop} (h : p := by (with_reducible repeat (first | apply Kd.R_alloc | apply Kd.R_drewN | apply Kd.R_drew)); exact HO355.out) : p := h
theorem zq39 {p : Prop} (h : p := by have := HK1.out; omega) : p := h
theorem zq40 {p : Prop} (h : p := by rw [HX2.out]; exact Kd.C_take (m := 5) (show Kd.C (Kd.int .u8) w9 (some ⟨g9, 0, none⟩) (code (seg b ls)).length (code (seg b ls)) from (Kd.R_reads' HR9.out).2.2) (by have h2 := HCN.out; omega)) : p := h
theorem zq41 {p : Prop} (h : p := by repeat (first | (with_reducible first | exact HK.out | apply Kept.alloc | apply Kept.drewN | apply Kept.drew) | exact HK.out)) : p := h
theorem zq42 {p : Prop} (h : p := by simp; omega) : p := h
theorem zq43 {p : Prop} (h : p := by rw [List.length_drop, List.length_take]; have h_ : ((wrap64 (t452 + t451)) : Int) ≤ (l0.length : Int) := of_decide_eq_true (by first | (with_reducible assumption) | assumption); omega) : p := h
theorem zq44 {p : Prop} (h : p := by have := HK1.out; have := HJ15.out; have := HJ21.out; omega) : p := h
theorem zq45 {p : Prop} (h : p := by first | rfl | (simp [errW_none, errW_some] <;> rfl) | (simp only [← hji7]; first | rfl | (simp [errW_none, errW_some] <;> rfl)) | (simp [*, errW_none, errW_some] <;> rfl)) : p := h
theorem zq46 {p : Prop} (h : p := by (with_reducible repeat (first | apply Kd.S_alloc | apply Kd.S_drewN | apply Kd.S_drew)); exact HO_293003.out) : p := h
theorem zq47 {p : Prop} (h : p := by rw [List.length_append]; omega) : p := h
theorem zq48 {p : Prop} (h : p := by intro y hy; simp only [List.mem_cons, List.not_mem_nil, or_false] at hy; omega) : p := h
theorem zq49 {p : Prop} (h : p := by (with_reducible repeat (first | apply Kd.R_alloc | apply Kd.R_drewN | apply Kd.R_drew)); exact HO345.out) : p := h
theorem zq50 {p : Prop} (h : p := by (with_reducible repeat (first | apply Kd.R_alloc | apply Kd.R_drewN | apply Kd.R_drew)); exact HO376.out) : p := h
theorem zq51 {p : Prop} (h : p := by (with_reducible repeat (first | apply Kd.R_alloc | apply Kd.R_drewN | apply Kd.R_drew)); exact HO0.out) : p := h
theorem zq52 {p : Prop} (h : p := by rw [wrap_in (by omega)]; omega) : p := h
theorem zq53 {p : Prop} (h : p := by first | rfl | (simp; done) | (simp only [← hji5] <;> (first | rfl | simp)) | (simp [*]; done)) : p := h
theorem zq54 {p : Prop} (h : p := by rw [List.length_append, List.length_singleton]) : p := h
theorem zq55 {p : Prop} (h : p := by rw [List.length_take]; omega) : p := h
theorem zq56 {p : Prop} (h : p := by intro q hq; rw [List.mem_singleton.1 hq]; rfl) : p := h
end Go.Proofs
