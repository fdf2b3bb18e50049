import Derived.Test.YtmgmdnmfalepkaaKit
import Derived.Test.YtmgmdnmfalepkaaPTri
import Derived.Test.YtmgmdnmfalepkaaStillIn
import Derived.RangeFuncBound
import Derived.RangeFuncCalls
import Derived.RangeFuncLeaves
import Derived.RangeFuncBox
import Derived.Shelf.RegionOpen
import Derived.OwnWalkIn
import Derived.TacticsInMore
import Derived.LoopNIn
import Derived.LoopIn
namespace Go.Proofs.Ytmgmdnmfalepkaa.Pieces
open Go.RowKit Go.Shelf Go.Proofs.YtmgmdnmfalepkaaW.PrintWords Go.Proofs.YtmgmdnmfalepkaaW.PrintMore Go.Proofs.Ytmgmdnmfalepkaa.Kit Go.Proofs.Ytmgmdnmfalepkaa.PKit Go.Proofs.Ytmgmdnmfalepkaa.PTri
set_option linter.unusedVariables false
attribute [local go_sem] Oper.semAt_some
def Keeps (n₀ B : Nat) (W W' : World) : Prop := Below n₀ W W' ∧ W'.heap[B]? = W.heap[B]?
theorem Keeps.refl (n₀ B : Nat) (W : World) : Keeps n₀ B W W := ⟨Below.refl _ _, rfl⟩
theorem Keeps.trans {n₀ B : Nat} {X Y Z : World} (h : Keeps n₀ B X Y) (k : Keeps n₀ B Y Z) : Keeps n₀ B X Z := ⟨h.1.trans k.1, k.2.trans h.2⟩
theorem Keeps.turn {n₀ B : Nat} {w : World} (hn : n₀ ≤ w.heap.size) (hB : B < w.heap.size) (W : World) (l : Nat) (o o' : Obj) (hl : w.heap.size ≤ l) (h : W.heap[l]? = some o) (h1 : o.isCells = false) (h2 : o.isWalk = false) : Keeps n₀ B W (W.putObj l o') :=
  ⟨belowK_b hn W l o o' hl h h1 h2, World.putObj_heap_other (by omega)⟩
theorem or_i64 (i : Nat) (x y : Int) (hx0 : 0 ≤ x) (hx : x % 2 ^ i = 0) (hx1 : x < 4294967296) (hy0 : 0 ≤ y) (hy : y < 2 ^ i) (hy1 : y < 4294967296) : bits .or .i64 x y = x + y :=
  bits_join .i64 32 (by decide) (fun n h0 h1 => by rw [IntKind.wrap_i64]; simp at h1; omega) i x y hx0 hx (by simpa using hx1) hy0 hy (by simpa using hy1)
theorem or_tri (l : List Int) (hb : ∀ x ∈ l, 0 ≤ x ∧ x ≤ 255) (k : Nat) : bits .or .i64 (bits .or .i64 (l.getD k 0 * 65536) (l.getD (k + 1) 0 * 256)) (l.getD (k + 2) 0) = tri l k := by
  have h0 := getD_bd l hb k
  have h1 := getD_bd l hb (k + 1)
  have h2 := getD_bd l hb (k + 2)
  rw [or_i64 16 _ (l.getD (k + 1) 0 * 256) (by omega) (by show _ % (65536 : Int) = 0; omega) (by omega) (by omega) (by show _ < (65536 : Int); omega) (by omega)]
  rw [or_i64 8 _ _ (by omega) (by show _ % (256 : Int) = 0; omega) (by omega) (by omega) (by show _ < (256 : Int); omega) (by omega)]
  rfl
theorem drew_grown (W : World) : W.grownBy W.drew none := ⟨rfl, rfl, rfl, Nat.le_refl _, fun _ _ _ => rfl⟩
theorem drew_keeps {n₀ B : Nat} {X Y : World} (h : Keeps n₀ B X Y) : Keeps n₀ B X Y.drew := ⟨below_drew h.1, h.2⟩
set_option maxRecDepth 100000 in
set_option maxHeartbeats 4000000 in
theorem pieces1_in (n : Nat) (l Bs n₀ : Nat) (A : Option Addr) (cap : Nat) (zs : List Int) (hb : ∀ x ∈ zs, 0 ≤ x ∧ x ≤ 255) (hl : zs.length ≤ 1048576) (J Jx : List Int → World → Prop)
    (hY : ∀ pre x W, J pre W → pre.length < zs.length - 2 → YieldAt Fence.wide (n - 1) Try.prog l #[.int .i64 x] W fun e W' =>
      (e = .returned (.bool true) ∧ J (pre ++ [x]) W' ∧ Keeps n₀ Bs W W') ∨ (e = .returned (.bool false) ∧ Jx (pre ++ [x]) W'))
    (w0 W : World) (hn₀ : n₀ ≤ W.heap.size) (hJ : AbidesFrom W.heap.size J) (hBs : Boxed W Bs 33 (.slice A zs.length cap)) (hr : Kd.C (Kd.int .u8) W A zs.length zs) (hA : 0 < zs.length → ∀ ad, A = some ad → ad.block < n₀) (h0 : J [] W) :
    CallsIn Fence.wide n Try.prog 127 #[.func (.yield l) #[] #[], .pointer (some ⟨Bs, 0, none⟩)] W fun e W' => (∃ v, e = .returned v) ∧
      ((∃ ys, ys = tris zs ∧ J ys W') ∨ (∃ pre, Jx pre W')) := by
  have HJ := Aside0.mk hJ
  have HR := Aside0.mk hr
  have HBD := Aside0.mk hb
  have HY := Aside0.mk hY
  have HBX := Aside0.mk hBs
  have hc := hBs.cell
  clear hJ hr hb hY hBs
  refine callsIn_of_wp Try.func127 rfl trivial ?_ rfl
  simp only [Try.ntmps127, List.size_toArray, List.length_cons, List.length_nil, Nat.reduceAdd, Nat.reduceSub, Array.replicate_succ, Array.replicate_zero, List.push_toArray, List.append_toArray, List.nil_append, List.cons_append]
  gi_wp2
  gi_loopw [3] (fun i wr => ∃ k : Nat, k ≤ zs.length - 2 ∧ i = .int .i64 k ∧ Aside0 (J (upto (tri zs) k) wr) ∧ Aside0 (Keeps n₀ Bs W wr))
    (fun i _ => zs.length - (intOf i).toNat)
  case atStart => exact ⟨0, Nat.zero_le _, rfl, ⟨h0⟩, ⟨Keeps.refl _ _ _⟩⟩
  case round =>
    obtain ⟨k, hk, rfl, HJS, HK⟩ := hrel
    have hbx : wr.cell? ⟨Bs, 0, none⟩ = some (.slice A zs.length cap) := Boxed.cell (HK.out.2.trans HBX.out)
    by_cases hlt : k + 3 ≤ zs.length
    · have hz1 : (k : Int) + 3 ≤ (zs.length : Int) := by omega
      have q0 : (0 : Int) ≤ (k : Int) := by omega
      have q1 : (k : Int) < (zs.length : Int) := by omega
      have q2 : (k : Int) + 1 < (zs.length : Int) := by omega
      have q3 : (k : Int) + 2 < (zs.length : Int) := by omega
      obtain ⟨ad, rfl, hcell⟩ := HR.out.2.2 (by omega)
      have hcl : ∀ j, j < zs.length → wr.cell? (ad.add j) = some (.int .u8 (zs.getD j 0)) := fun j hj => by
        obtain ⟨c, _, hK, hc1⟩ := hcell j (zs.getD j 0) (by simp [List.getD, List.getElem?_eq_getElem hj])
        have hK' : c = [.int .u8 (zs.getD j 0)] := hK
        subst hK'
        have h2 := hc1 0 _ rfl
        have h3 : W.cell? (ad.add j) = some (.int .u8 (zs.getD j 0)) := by simpa [Kd.int, Kd.scalar] using h2
        have hlt2 : (ad.add j).block < n₀ := by have := hA (by omega) ad rfl; unfold Addr.add; split <;> simpa using this
        exact (HK.out.1.cell (p := ad.add j) hlt2).trans h3
      have c0 := hcl k (by omega)
      have c1 := hcl (k + 1) (by omega)
      have c2 := hcl (k + 2) (by omega)
      have b0 := getD_bd zs HBD.out k
      have b1 := getD_bd zs HBD.out (k + 1)
      have b2 := getD_bd zs HBD.out (k + 2)
      have HO := Aside0.mk (or_tri zs HBD.out k)
      clear hcl hcell
      generalize zs.getD k 0 = x0 at c0 b0 HO
      generalize zs.getD (k + 1) 0 = x1 at c1 b1 HO
      generalize zs.getD (k + 2) 0 = x2 at c2 b2 HO
      have c1' : wr.cell? { block := ad.block, off := ad.off + (k + 1) } = some (.int .u8 x1) := by simpa [Addr.add] using c1
      have c2' : wr.cell? { block := ad.block, off := ad.off + (k + 2) } = some (.int .u8 x2) := by simpa [Addr.add] using c2
      obtain ⟨b00, b01⟩ := b0
      obtain ⟨b10, b11⟩ := b1
      obtain ⟨b20, b21⟩ := b2
      have HJ2 : J (upto (tri zs) k) wr.drew := HJ.out _ wr wr.drew none HJS.out (drew_grown wr) (fun r e => by cases e)
      obtain ⟨fn, tmps, assign, body, hy, hR⟩ := HY.out _ (tri zs k) wr.drew HJ2 (by rw [upto_length]; omega)
      have hor := HO.out
      gi_wp2
      have W1 := IntWalk.i64_in ((k : Int) + 1) (by omega)
      have W2 := IntWalk.i64_in ((k : Int) + 2) (by omega)
      have E0 := IntWalk.i64_in x0 (by omega)
      have E1 := IntWalk.i64_in x1 (by omega)
      have E2 := IntWalk.i64_in x2 (by omega)
      have M0 := IntWalk.i64_in (x0 * 65536) (by omega)
      have M1 := IntWalk.i64_in (x1 * 256) (by omega)
      have P1 : (0 : Int) ≤ (k : Int) + 1 := by omega
      have P2 : (0 : Int) ≤ (k : Int) + 2 := by omega
      have T1 : ((k : Int) + 1).toNat = k + 1 := by omega
      have T2 : ((k : Int) + 2).toNat = k + 2 := by omega
      refine StillIn.wpIn_region_still_tail 22 (by kernel_rfl) (by kernel_rfl) ?_
      simp only [List.take_succ_cons, List.take_zero, List.drop_succ_cons, List.drop_zero]
      repeat still_step
      refine wpStill_nil ?_
      clear W1 W2 E0 E1 E2 M0 M1 P1 P2 T1 T2
      gi_wp2
      refine ⟨(fun h => by cases h), ?_⟩
      refine hR.mono ?_
      rintro e W3 (⟨rfl, hJ3, hk3⟩ | ⟨rfl, hJx3⟩)
      · have HJ3 := Aside0.mk hJ3
        have HK3 := Aside0.mk hk3
        clear hJ3 hk3
        gi_wp2
        go_roundw
        case rel => exact ⟨k + 1, by omega, by go_num, ⟨by rw [upto_succ]; exact HJ3.out⟩, ⟨(drew_keeps HK.out).trans HK3.out⟩⟩
        case measure => simp [intOf]; omega
      · gi_wp2
        refine bodyPost_ret (results_none rfl _ _ _) rfl ?_
        exact ⟨⟨_, rfl⟩, .inr ⟨_, hJx3⟩⟩
    · have hz1 : ¬ (k : Int) + 3 ≤ (zs.length : Int) := by omega
      have hke : k = zs.length - 2 := by omega
      gi_wp2
      go_end0
      exact ⟨⟨_, rfl⟩, .inl (by have := HJS.out; rw [hke] at this; exact this)⟩
end Go.Proofs.Ytmgmdnmfalepkaa.Pieces
