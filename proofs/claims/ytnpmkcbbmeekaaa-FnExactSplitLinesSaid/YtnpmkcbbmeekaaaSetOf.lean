/- setOf: the set of bytes that a list of pairs tells, for every list of numbers from 0 to 255. -/
import Derived.Test.YtnpmkcbbmeekaaaBits
import Derived.StillTailTactics
import Derived.Laws.Rows
namespace Go.Proofs.Ytnpmkcbbmeekaaa.Bits
open Go.RowKit Go.Proofs.YtnpmkcbbmeekaaaW.PrintWords Go.Proofs.YtnpmkcbbmeekaaaW.PrintMore Go.Proofs.Ytnpmkcbbmeekaaa.Kit
set_option linter.unusedVariables false

def setM : Nat → List Int → Nat
  | m, lo :: hi :: r => setM (spanM m lo.toNat (hi.toNat + 1 - lo.toNat)) r
  | m, _ => m
theorem setM_step (m : Nat) (l : List Int) (i : Nat) (h : i + 1 < l.length) : setM m (l.drop i) = setM (spanM m (rd l i).toNat ((rd l ((i + 1 : Nat) : Int)).toNat + 1 - (rd l i).toNat)) (l.drop (i + 2)) := by
  have e1 : l.drop i = l[i] :: l[i + 1] :: l.drop (i + 2) := by
    rw [List.drop_eq_getElem_cons (by omega), List.drop_eq_getElem_cons h]
  have r1 : rd l (i : Int) = l[i] := by simp [rd, List.getD, List.getElem?_eq_getElem (show i < l.length by omega)]
  have r2 : rd l ((i + 1 : Nat) : Int) = l[i + 1] := by simp [rd, List.getD, List.getElem?_eq_getElem h]
  rw [e1, r1, r2]
  rfl
theorem setM_end (m : Nat) (l : List Int) (i : Nat) (h : l.length ≤ i + 1) : setM m (l.drop i) = m := by
  by_cases hi : i < l.length
  · rw [List.drop_eq_getElem_cons hi, List.drop_eq_nil_of_le (by omega)]
    rfl
  · rw [List.drop_eq_nil_of_le (by omega)]
    rfl
def Gives (v : Value) (w : World) (e : Ending) (w' : World) : Prop := e = .returned v ∧ Grew w w'

set_option maxHeartbeats 2000000 in
set_option maxRecDepth 100000 in
theorem setOf_calls (A : Option Addr) (c : Nat) (l : List Int) (w : World) (hr : Kd.C (Kd.int .i64) w A l.length l) (hl : l.length ≤ 256) (h256 : ∀ x ∈ l, 0 ≤ x ∧ x ≤ 255) :
    Calls Try.prog 69 #[.slice A l.length c] w (Gives (.agg (words (setM 0 l))) w) := by
  have HR := Aside0.mk hr
  have H2 := Aside0.mk h256
  have hlen := hr.2.1
  clear hr h256
  go_enter Try.func69, Try.ntmps69
  go_wp2
  go_loopg [4] l.length (fun gg s4 wr => ∃ i m' : Nat, i ≤ l.length + 1 ∧ l.length - i ≤ gg ∧ s4 = .int .i64 i ∧ Aside0 (setM m' (l.drop i) = setM 0 l) ∧ Aside0 (Arr wr w.heap.size 0) ∧ Aside0 (Arr wr (w.heap.size + 1) m') ∧ Aside0 (Below w.heap.size w wr))
  case atStart =>
    have a0 : ∀ W : World, Arr (W.alloc (.cells #[.int .u64 0, .int .u64 0, .int .u64 0, .int .u64 0] 104)) W.heap.size 0 := fun W => heap_alloc_new W (.cells (words 0) 104 (0, 0))
    refine ⟨0, 0, by omega, by omega, rfl, ⟨rfl⟩, ⟨(a0 w).grew (below_alloc (Below.refl _ _) _)⟩, ⟨?_⟩, ⟨below_alloc (below_alloc (Below.refl _ _) _) _⟩⟩
    have := a0 (w.alloc (.cells #[.int .u64 0, .int .u64 0, .int .u64 0, .int .u64 0] 104))
    simpa using this
  case round =>
    obtain ⟨i, m', hi, hg, rfl, HM, H0, HS, HB⟩ := hrel
    by_cases hlt : i + 1 < l.length
    · have hltz : (i : Int) + 1 < (l.length : Int) := by omega
      obtain ⟨ad, rfl, hx⟩ := Kd.at_int HR.out (i : Int) (by omega) (by omega)
      obtain ⟨ad', e', hy⟩ := Kd.at_int HR.out ((i + 1 : Nat) : Int) (by omega) (by omega)
      injection e' with e'
      subst e'
      simp only [Int.toNat_natCast] at hx hy
      replace hx := pw_cell_below HB.out hx
      replace hy := pw_cell_below HB.out hy
      rw [Addr.add_succ'] at hy
      have HE := Aside0.mk (setM_step m' l i hlt)
      obtain ⟨bx0, bx1⟩ := H2.out (rd l i) (getD_mem l 0 i (by omega))
      obtain ⟨by0, by1⟩ := H2.out (rd l ((i + 1 : Nat) : Int)) (getD_mem l 0 (i + 1) hlt)
      obtain ⟨x, hxx⟩ := Int.eq_ofNat_of_zero_le bx0
      obtain ⟨y, hyy⟩ := Int.eq_ofNat_of_zero_le by0
      rw [hxx] at hx HE bx1
      rw [hyy] at hy HE by1
      clear hxx hyy bx0 by0
      have hcall := fun (W : World) (hW : Arr W (w.heap.size + 1) m') => span_calls (w.heap.size + 1) x y m' W (by omega) (by omega) hW
      have hb1 : (x : Int) < 256 := by omega
      have hb2 : (y : Int) < 256 := by omega
      have hi0 : (0 : Int) ≤ (i : Int) := by omega
      have hi1 : (i : Int) < (l.length : Int) := by omega
      have hi2 : (0 : Int) ≤ (i : Int) + 1 := by omega
      have ws : IntKind.i64.wrap ((i : Int) + 1) = (i : Int) + 1 := IntWalk.i64_in _ (by omega)
      have wx : IntKind.u8.wrap (x : Int) = (x : Int) := IntWalk.u8_in _ (by omega)
      have wy : IntKind.u8.wrap (y : Int) = (y : Int) := IntWalk.u8_in _ (by omega)
      have tn : ((i : Int) + 1).toNat = i + 1 := by omega
      go_wp2_with fail
      go_still_tail 11, (by kernel_rfl)
      change wpList _ _ _ _ _ wr.drew
      have hc := hcall wr.drew HS.out
      clear hcall
      go_wp2_with (go_at_call 82; refine hc.mono ?_; rintro e w' ⟨rfl, ha', hg'⟩)
      go_roundg (l.length - (i + 2))
      case measure => omega
      case rel =>
        refine ⟨i + 2, _, by omega, by omega, by go_num, ⟨HE.out.symm.trans HM.out⟩, ⟨?_⟩, ⟨ha'⟩, ⟨?_⟩⟩
        · exact Arr.kept (w := wr.drew) H0.out hg' (by simp)
        · exact (below_drew HB.out).grown hg' HB.out.size (fun k hk => by injection hk with hk; omega)
    · have hltz : ¬ (i : Int) + 1 < (l.length : Int) := by omega
      have HF := Aside0.mk ((setM_end m' l i (by omega)).symm.trans HM.out)
      have c0 := HS.out.cell 0 (by decide)
      have c1 := HS.out.cell 1 (by decide)
      have c2 := HS.out.cell 2 (by decide)
      have c3 := HS.out.cell 3 (by decide)
      have d0 := H0.out.cell 0 (by decide)
      have d1 := H0.out.cell 1 (by decide)
      have d2 := H0.out.cell 2 (by decide)
      have d3 := H0.out.cell 3 (by decide)
      have f0 := H0.out.frozen 0
      have f1 := H0.out.frozen 1
      have f2 := H0.out.frozen 2
      have f3 := H0.out.frozen 3
      go_wp2
      refine bodyPost_ret (v := .agg (words m')) ?_ rfl ⟨by rw [HF.out], ?_⟩
      · simp [results, Try.results69, go_sem, words, d0, d1, d2, d3]
      · exact (((HB.out.setCell (Nat.le_refl _) _).setCell (Nat.le_refl _) _).setCell (Nat.le_refl _) _).setCell (Nat.le_refl _) _
end Go.Proofs.Ytnpmkcbbmeekaaa.Bits
