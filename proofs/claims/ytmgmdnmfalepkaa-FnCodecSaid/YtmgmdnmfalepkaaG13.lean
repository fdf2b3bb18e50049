/- Parts of the proof (see the row's own text): Pieces, Tri, Build, StoK. -/
import Derived.Test.YtmgmdnmfalepkaaG00
import Derived.Test.YtmgmdnmfalepkaaG2
import Derived.Test.YtmgmdnmfalepkaaG6
import Derived.Test.YtmgmdnmfalepkaaG12
import Derived.RangeFuncBound
import Derived.RangeFuncCalls
import Derived.RangeFuncLeaves
import Derived.RangeFuncBox
import Derived.Shelf.RegionOpen
import Derived.OwnWalkIn
import Derived.TacticsInMore
import Derived.LoopNIn
import Derived.LoopIn
import Derived.Test.YtmgmdnmfalepkaaG10
import Derived.RangeFuncNested
import Derived.Maps.AppendAt
import Derived.Maps.GroupsBeside
import Derived.Test.YtmgmdnmfalepkaaG8
namespace Go.Proofs.Ytmgmdnmfalepkaa.Pieces
open Go.RowKit Go.Shelf Go.Proofs.YtmgmdnmfalepkaaW.PrintWords Go.Proofs.YtmgmdnmfalepkaaW.PrintMore Go.Proofs.Ytmgmdnmfalepkaa.Kit Go.Proofs.Ytmgmdnmfalepkaa.PKit Go.Proofs.Ytmgmdnmfalepkaa.PTri
set_option linter.unusedVariables false
attribute [local go_sem] Oper.semAt_some
def Keeps (n₀ B : Nat) (W W' : World) : Prop := Below n₀ W W' ∧ W'.heap[B]? = W.heap[B]?
theorem Keeps.refl (n₀ B : Nat) (W : World) : Keeps n₀ B W W := ⟨Below.refl _ _, rfl⟩
theorem Keeps.trans {n₀ B : Nat} {X Y Z : World} (h : Keeps n₀ B X Y) (k : Keeps n₀ B Y Z) : Keeps n₀ B X Z := ⟨h.1.trans k.1, k.2.trans h.2⟩
theorem Keeps.turn {n₀ B : Nat} {w : World} (hn : n₀ ≤ w.heap.size) (hB : B < w.heap.size) (W : World) (l : Nat) (o o' : Obj) (hl : w.heap.size ≤ l) (h : W.heap[l]? = some o) (h1 : o.isCells = false) (h2 : o.isWalk = false) : Keeps n₀ B W (W.putObj l o') :=
 ⟨belowK_b hn W l o o' hl h h1 h2, World.putObj_heap_other zq3⟩
theorem or_i64 (i : Nat) (x y : Int) (hx0 : 0 ≤ x) (hx : x % 2 ^ i = 0) (hx1 : x < 4294967296) (hy0 : 0 ≤ y) (hy : y < 2 ^ i) (hy1 : y < 4294967296) : bits .or .i64 x y = x + y :=
 bits_join .i64 32 zq13 (fun n h0 h1 => by rw [IntKind.wrap_i64]; simp at h1; omega) i x y hx0 hx (by simpa using hx1) hy0 hy (by simpa using hy1)
theorem or_tri (l : List Int) (hb : ∀ x ∈ l, 0 ≤ x ∧ x ≤ 255) (k : Nat) : bits .or .i64 (bits .or .i64 (l.getD k 0 * 65536) (l.getD (k + 1) 0 * 256)) (l.getD (k + 2) 0) = tri l k := by
 have h0 := getD_bd l hb k
 have h1 := getD_bd l hb (k + 1)
 have h2 := getD_bd l hb (k + 2)
 rw [or_i64 16 _ (l.getD (k + 1) 0 * 256) zq3 (by show _ % (65536 : Int) = 0; omega) zq3 zq3 (by show _ < (65536 : Int); omega) zq3]
 rw [or_i64 8 _ _ zq3 (by show _ % (256 : Int) = 0; omega) zq3 zq3 (by show _ < (256 : Int); omega) zq3]
 rfl
theorem drew_grown (W : World) : W.grownBy W.drew none := ⟨rfl, rfl, rfl, Nat.le_refl _, fun _ _ _ => rfl⟩
theorem drew_keeps {n₀ B : Nat} {X Y : World} (h : Keeps n₀ B X Y) : Keeps n₀ B X Y.drew := ⟨below_drew h.1, h.2⟩
set_option maxRecDepth 100000 in
set_option maxHeartbeats 4000000 in
theorem pieces1_in (n : Nat) (l Bs n₀ : Nat) (A : Option Addr) (cap : Nat) (zs : List Int) (hb : ∀ x ∈ zs, 0 ≤ x ∧ x ≤ 255) (hl : zs.length ≤ 1048576) (J Jx : List Int → World → Prop)
  (hY : ∀ pre x W, J pre W → pre.length < zs.length - 2 → YieldAt Fence.wide (n - 1) Try.prog l #[.int .i64 x] W fun e W' =>
   (e = .returned (.bool true) ∧ J (pre ++ [x]) W' ∧ Keeps n₀ Bs W W') ∨ (e = .returned (.bool false) ∧ Jx (pre ++ [x]) W'))
  (w0 W : World) (hn₀ : n₀ ≤ W.heap.size) (hJ : AbidesFrom W.heap.size J) (hBs : Boxed W Bs 33 (.slice A zs.length cap)) (hr : Kd.C (Kd.int .u8) W A zs.length zs) (hA : 0 < zs.length → ∀ ad, A = some ad → ad.block < n₀) (h0 : J [] W) :
  CallsIn Fence.wide n Try.prog 127 #[.func (.yield l) #[] #[], .pointer (some ⟨Bs, 0, none⟩)] W fun e W' => (∃ v, e = .returned v) ∧
   ((∃ ys, ys = tris zs ∧ J ys W') ∨ (∃ pre, Jx pre W')) := by
 have HJ := zA hJ
 have HR := zA hr
 have HBD := zA hb
 have HY := zA hY
 have HBX := zA hBs
 have hc := hBs.cell
 clear hJ hr hb hY hBs
 refine callsIn_of_wp Try.func127 rfl trivial ?_ rfl
 simp only [Try.ntmps127, List.size_toArray, List.length_cons, List.length_nil, Nat.reduceAdd, Nat.reduceSub, Array.replicate_succ, Array.replicate_zero, List.push_toArray, List.append_toArray, List.nil_append, List.cons_append]
 gi_wp2
 gi_loopw [3] (fun i wr => ∃ k : Nat, k ≤ zs.length - 2 ∧ i = .int .i64 k ∧ Aside0 (J (upto (tri zs) k) wr) ∧ Aside0 (Keeps n₀ Bs W wr))
  (fun i _ => zs.length - (intOf i).toNat)
 case atStart => exact ⟨0, Nat.zero_le _, rfl, ⟨h0⟩, ⟨Keeps.refl _ _ _⟩⟩
 case round =>
  obtain ⟨k, hk, rfl, HJS, HK⟩ := hrel
  have hbx : wr.cell? ⟨Bs, 0, none⟩ = some (.slice A zs.length cap) := Boxed.cell (HK.out.2.trans HBX.out)
  by_cases hlt : k + 3 ≤ zs.length
  ·have hz1 : (k : Int) + 3 ≤ (zs.length : Int) := by omega
   have q0 : (0 : Int) ≤ (k : Int) := by omega
   have q1 : (k : Int) < (zs.length : Int) := by omega
   have q2 : (k : Int) + 1 < (zs.length : Int) := by omega
   have q3 : (k : Int) + 2 < (zs.length : Int) := by omega
   obtain ⟨ad, rfl, hcell⟩ := HR.out.2.2 zq3
   have hcl : ∀ j, j < zs.length → wr.cell? (ad.add j) = some (.int .u8 (zs.getD j 0)) := fun j hj => by
    obtain ⟨c, _, hK, hc1⟩ := hcell j (zs.getD j 0) (by simp [List.getD, List.getElem?_eq_getElem hj])
    have hK' : c = [.int .u8 (zs.getD j 0)] := hK
    subst hK'
    have h2 := hc1 0 _ rfl
    have h3 : W.cell? (ad.add j) = some (.int .u8 (zs.getD j 0)) := by simpa [Kd.int, Kd.scalar] using h2
    have hlt2 : (ad.add j).block < n₀ := by have := hA zq3 ad rfl; unfold Addr.add; split <;> simpa using this
    exact (HK.out.1.cell (p := ad.add j) hlt2).trans h3
   have c0 := hcl k zq3
   have c1 := hcl (k + 1) zq3
   have c2 := hcl (k + 2) zq3
   have b0 := getD_bd zs HBD.out k
   have b1 := getD_bd zs HBD.out (k + 1)
   have b2 := getD_bd zs HBD.out (k + 2)
   have HO := zA (or_tri zs HBD.out k)
   clear hcl hcell
   generalize zs.getD k 0 = x0 at c0 b0 HO
   generalize zs.getD (k + 1) 0 = x1 at c1 b1 HO
   generalize zs.getD (k + 2) 0 = x2 at c2 b2 HO
   have c1' : wr.cell? { block := ad.block, off := ad.off + (k + 1) } = some (.int .u8 x1) := by simpa [Addr.add] using c1
   have c2' : wr.cell? { block := ad.block, off := ad.off + (k + 2) } = some (.int .u8 x2) := by simpa [Addr.add] using c2
   obtain ⟨b00, b01⟩ := b0
   obtain ⟨b10, b11⟩ := b1
   obtain ⟨b20, b21⟩ := b2
   have HJ2 : J (upto (tri zs) k) wr.drew := HJ.out _ wr wr.drew none HJS.out (drew_grown wr) (fun r e => by cases e)
   obtain ⟨fn, tmps, assign, body, hy, hR⟩ := HY.out _ (tri zs k) wr.drew HJ2 (by rw [upto_length]; omega)
   have hor := HO.out
   gi_wp2
   have W1 := IntWalk.i64_in ((k : Int) + 1) zq3
   have W2 := IntWalk.i64_in ((k : Int) + 2) zq3
   have E0 := IntWalk.i64_in x0 zq3
   have E1 := IntWalk.i64_in x1 zq3
   have E2 := IntWalk.i64_in x2 zq3
   have M0 := IntWalk.i64_in (x0 * 65536) zq3
   have M1 := IntWalk.i64_in (x1 * 256) zq3
   have P1 : (0 : Int) ≤ (k : Int) + 1 := by omega
   have P2 : (0 : Int) ≤ (k : Int) + 2 := by omega
   have T1 : ((k : Int) + 1).toNat = k + 1 := by omega
   have T2 : ((k : Int) + 2).toNat = k + 2 := by omega
   refine StillIn.wpIn_region_still_tail 22 zq12 zq12 ?_
   simp only [List.take_succ_cons, List.take_zero, List.drop_succ_cons, List.drop_zero]
   repeat still_step
   refine wpStill_nil ?_
   clear W1 W2 E0 E1 E2 M0 M1 P1 P2 T1 T2
   gi_wp2
   refine ⟨(fun h => by cases h), ?_⟩
   refine hR.mono ?_
   rintro e W3 (⟨rfl, hJ3, hk3⟩ | ⟨rfl, hJx3⟩)
   ·have HJ3 := zA hJ3
    have HK3 := zA hk3
    clear hJ3 hk3
    gi_wp2
    go_roundw
    case rel => exact ⟨k + 1, zq3, by go_num, ⟨by rw [upto_succ]; exact HJ3.out⟩, ⟨(drew_keeps HK.out).trans HK3.out⟩⟩
    case measure => simp [intOf]; omega
   ·gi_wp2
    refine bodyPost_ret (results_none rfl _ _ _) rfl ?_
    exact ⟨⟨_, rfl⟩, .inr ⟨_, hJx3⟩⟩
  ·have hz1 : ¬ (k : Int) + 3 ≤ (zs.length : Int) := by omega
   have hke : k = zs.length - 2 := by omega
   gi_wp2
   go_end0
   exact ⟨⟨_, rfl⟩, .inl (by have := HJS.out; rw [hke] at this; exact this)⟩
end Go.Proofs.Ytmgmdnmfalepkaa.Pieces

namespace Go.Proofs.Ytmgmdnmfalepkaa.Tri
open Go.RowKit Go.Shelf Go.Proofs.YtmgmdnmfalepkaaW.PrintWords Go.Proofs.YtmgmdnmfalepkaaW.PrintMore Go.Proofs.Ytmgmdnmfalepkaa.Kit Go.Proofs.Ytmgmdnmfalepkaa.PKit Go.Proofs.Ytmgmdnmfalepkaa.PTri Go.Proofs.Ytmgmdnmfalepkaa.PSort Go.Proofs.Ytmgmdnmfalepkaa.SortI Go.Proofs.Ytmgmdnmfalepkaa.Pieces Go.Proofs.Ytmgmdnmfalepkaa.Ty
set_option linter.unusedVariables false
attribute [local go_sem] Oper.semAt_some
theorem infoI : (Try.prog.info? 3).map (fun i => (i.zero, i.size, i.bytes)) = some (some (.int .i64 0), 1, 8) := by kernel_rfl
theorem pieces_in (n : Nat) (A : Option Addr) (len cap : Nat) (w : World) :
  CallsIn Fence.wide n Try.prog 74 #[.slice A len cap] w fun e w' => e = .returned (.func (.func 127) #[] #[.pointer (some ⟨w.heap.size, 0, none⟩)]) ∧ w' = w.alloc (.cells #[.slice A len cap] 33) := by
 refine callsIn_of_wp Try.func74 rfl trivial ?_ rfl
 simp only [Try.ntmps74, List.size_toArray, List.length_cons, List.length_nil, Nat.reduceAdd, Nat.reduceSub, Array.replicate_succ, Array.replicate_zero, List.push_toArray, List.append_toArray, List.nil_append, List.cons_append]
 gi_wp2
 go_ret
 exact ⟨rfl, rfl⟩
theorem pieces_stops (n : Nat) (Bs n₀ : Nat) (A : Option Addr) (cap : Nat) (zs : List Int) (hb : ∀ x ∈ zs, 0 ≤ x ∧ x ≤ 255) (hl : zs.length ≤ 1048576) (w : World) (hn₀ : n₀ ≤ w.heap.size) (hBs : Boxed w Bs 33 (.slice A zs.length cap))
  (hr : Kd.C (Kd.int .u8) w A zs.length zs) (hA : 0 < zs.length → ∀ ad, A = some ad → ad.block < n₀) :
  SeqStopsK Fence.wide n Try.prog 127 #[.pointer (some ⟨Bs, 0, none⟩)] (fun x : Int => #[Value.int .i64 x]) (Keeps n₀ Bs) (fun ys => ys = tris zs) (fun _ => True) (zs.length - 2) w := fun l J Jx W hW hJ _ hY h0 => by
 refine (pieces1_in n l Bs n₀ A cap zs hb hl J Jx hY w W (Nat.le_trans hn₀ hW.size) hJ ((hW.block Bs hBs.lt).trans hBs) (Kd.C_below hr hW) hA h0).mono ?_
 rintro e W' ⟨h1, h2⟩
 refine ⟨h1, ?_⟩
 rcases h2 with h2 | ⟨pre, h2⟩
 ·exact .inl h2
 ·exact .inr ⟨pre, trivial, h2⟩
theorem block_lt {w : World} {A : Option Addr} {n : Nat} {zs : List Int} (h : Kd.C (Kd.int .u8) w A n zs) (hn : 0 < n) : ∀ ad, A = some ad → ad.block < w.heap.size := by
 obtain ⟨ad, rfl, hc⟩ := h.2.2 hn
 rintro ad' ⟨⟩
 obtain ⟨c, _, hK, hcell⟩ := hc 0 (zs.getD 0 0) (by have := h.1; simp [List.getD, List.getElem?_eq_getElem (show 0 < zs.length by omega)])
 have hK' : c = [.int .u8 (zs.getD 0 0)] := hK
 subst hK'
 have := World.block_lt_of_cell? w _ (hcell 0 _ rfl)
 simpa [Addr.add] using this
theorem own_not_other {w : World} {base : Nat} {e : TypeId} {size n : Nat} {v : Value} {xs : List Value} (h : w.ownsRow base e size v n xs) {D : Nat} {o : Obj} (hD : w.heap[D]? = some o) (ho : o.isCells = false) : some D ≠ v.ownBlock := by
 rcases h.2 with ⟨rfl, _⟩ | ⟨g, cap, cur, rfl, _, hgb, _⟩
 ·simp [Value.ownBlock]
 ·intro e'
  obtain rfl : D = g := by simpa [Value.ownBlock] using e'
  rw [hgb] at hD
  cases hD
  cases ho
set_option maxRecDepth 100000 in
set_option maxHeartbeats 4000000 in
theorem tri_calls (A : Option Addr) (cap : Nat) (zs : List Int) (w : World) (hr : Kd.C (Kd.int .u8) w A zs.length zs) (hc : zs.length ≤ cap) (hb : ∀ x ∈ zs, 0 ≤ x ∧ x ≤ 255) (hl : zs.length ≤ 1048576) :
  Calls Try.prog 21 #[.slice A zs.length cap] w fun e w' => ∃ v, e = .returned v ∧ Kd.R (Kd.int .i64) 3 w' w.heap.size (fun _ => True) v (ord (tris zs)) ∧ Grew w w' := by
 refine (callsIn_wide (n := 6)).1 ?_
 obtain ⟨i0, hi, hz0, hz1, hz2⟩ := info_parts infoI
 have HR := zA hr
 have HBD := zA hb
 clear hr hb
 refine callsIn_of_wp_marks Try.func21 rfl trivial ?_ rfl
 simp only [Try.ntmps21, List.size_toArray, List.length_cons, List.length_nil, Nat.reduceAdd, Nat.reduceSub, Array.replicate_succ, Array.replicate_zero, List.push_toArray, List.append_toArray, List.nil_append, List.cons_append]
 gi_wp2_with (refine ⟨trivial, ?_⟩; gi_at_call 74; refine (pieces_in _ _ _ _ _).mono ?_; rintro e w' ⟨rfl, rfl⟩)
 have bO := Boxed.new (w.alloc (.cells #[] 3)) 22 (.slice (some ⟨w.heap.size, 0, none⟩) 0 0)
 have bL := Boxed.new ((w.alloc (.cells #[] 3)).alloc (.cells #[.slice (some ⟨w.heap.size, 0, none⟩) 0 0] 22)) 33 (.slice A zs.length cap)
 simp only [World.size_alloc] at bO bL
 have hrow0 : (w.alloc (.cells #[] 3)).ownsRow w.heap.size 3 1 (.slice (some ⟨w.heap.size, 0, none⟩) 0 0) 0 [] := ⟨rfl, .inr ⟨w.heap.size, 0, #[], rfl, Nat.le_refl _, heap_alloc_new w _, zq14, by simp [maxLen], rfl, rfl⟩⟩
 obtain ⟨W0, hW0⟩ : ∃ W0, ((w.alloc (.cells #[] 3)).alloc (.cells #[.slice (some ⟨w.heap.size, 0, none⟩) 0 0] 22)).alloc (.cells #[.slice A zs.length cap] 33) = W0 := ⟨_, rfl⟩
 have hsz : W0.heap.size = w.heap.size + 1 + 1 + 1 := by rw [← hW0]; simp
 have hB0 : Below w.heap.size w W0 := by rw [← hW0]; exact ((((Below.refl _ w).alloc (Nat.le_refl _) _).alloc zq14 _).alloc zq42 _)
 have bO0 : Boxed W0 (w.heap.size + 1) 22 (.slice (some ⟨w.heap.size, 0, none⟩) 0 0) := by rw [← hW0]; exact bO.alloc _
 have hrow : W0.ownsRow w.heap.size 3 1 (.slice (some ⟨w.heap.size, 0, none⟩) 0 0) 0 [] := by rw [← hW0]; exact (hrow0.alloc _).alloc _
 rw [hW0] at bL ⊢
 clear hW0 bO hrow0
 refine wpIn_rangeFunc_ownG rfl zq3 (gf := 127) (lb := #[.pointer (some ⟨w.heap.size + 1 + 1, 0, none⟩)]) rfl trivial (enters_of Try.func127 zq12 rfl)
  (pieces_stops _ (w.heap.size + 1 + 1) w.heap.size A cap zs HBD.out hl W0 zq3 bL (Kd.C_below HR.out hB0) (fun hp => block_lt HR.out hp)) (Keeps.trans) (Keeps.turn zq3 zq3) (Below.refl _ _) (fun _ => rfl)
  (fun pre W => (∃ v, Boxed W (w.heap.size + 1) 22 v ∧ W.ownsRow w.heap.size 3 1 v pre.length (pre.map (Value.int .i64)) ∧ True) ∧ Below w.heap.size w W ∧ Boxed W (w.heap.size + 1 + 1) 33 (.slice A zs.length cap))
  (fun _ _ _ => False)
  (OwnFrom.and (Own.from (holdsRow_own w.heap.size (w.heap.size + 1) 22 3 1 (fun (pre : List Int) => pre.length) (fun pre => pre.map (Value.int .i64)) (fun _ _ => True)) _) (OwnFrom.and (ownFrom_below (Nat.le_refl _) zq3) (Own.from (boxed_own (w.heap.size + 1 + 1) 33 (fun _ => .slice A zs.length cap)) _)))
  (fun _ _ _ _ _ hs _ _ => hs)
  ⟨⟨_, bO0, hrow, trivial⟩, hB0, bL⟩
  (fun x => { tmps := #[.slice A zs.length cap, undef, .slice none 0 0, .pointer (some ⟨w.heap.size + 1, 0, none⟩), .int .i64 x, .slice (some ⟨w.heap.size, 0, none⟩) 0 0, .slice A zs.length cap, .func (.func 127) #[] #[.pointer (some ⟨w.heap.size + 1 + 1, 0, none⟩)], .int .i64 x, undef, undef, undef, undef, undef, undef, undef, undef], defers := [] }) ?assign ?body ?done ?stop
 case assign =>
  intro l x W K hK
  gi_wp2
  exact hK
 case body =>
  rintro l pre x W ⟨⟨v, hv, hrow, _⟩, hB, hbL⟩ hlt
  have hc := hv.cell
  gi_wp2_with (gi_at_builtin; refine wpListIn_append_own _ rfl _ _ 22 rfl w.heap.size 3 i0 (.int .i64 0) 1 8 Try.underlying22 hi hz0 hz1 hz2 rfl zq13 _ _ _ rfl (hrow.alloc _) ⟨W.heap.size, 0, none⟩ 1 1 [.int .i64 x] rfl rfl (cell_one_new _ _ _) (by simp [Value.oneCell']) (by unfold maxLen; omega) zq3 (by have := hB.size; simp; omega) ?_; intro v' w1 hown' hgrow _; obtain ⟨g', cap', rfl⟩ := ownsRow_succ hown'; obtain ⟨hv1, hv2, hr2, hk2, hb2⟩ := hv.appended zq13 hrow hB.size zq3 hown' hgrow; have hc1 := hv1.cell; have hf1 := hv1.frozen)
  have hbL1 : Boxed w1 (w.heap.size + 1 + 1) 33 (.slice A zs.length cap) := (hbL.alloc _).kept hgrow (hbL.not_row zq13 hrow)
  have hbL2 := hbL1.other (B' := w.heap.size + 1) zq3 (.slice (some ⟨g', 0, none⟩) (pre.length + 1) cap')
  exact ⟨hk2.from _, ⟨hb2, hbL2.trans hbL.symm⟩, ⟨_, hv2, by simpa using hr2, trivial⟩, hB.trans hb2, hbL2⟩
 case done =>
  rintro D ys W hD rfl ⟨⟨v, hv, hrow, _⟩, hB, hbL⟩ hK
  have hc := hv.cell
  have hR : Kd.R (Kd.int .i64) 3 W w.heap.size (fun _ => True) v (tris zs) := Kd.R_of_own hrow (fun _ _ => trivial)
  have htl := tris_length zs
  gi_wp2_with (first | (refine ⟨trivial, ?_⟩; gi_at_call 75; refine (callsIn_wide.2 (sort_calls v _ _ _ _ hR zq3)).mono ?_; rintro e W2 ⟨rfl, hR2, hg2⟩; have hv2 := hv.kept hg2 (hv.not_row zq13 hrow); have hc2 := hv2.cell) | (refine ⟨trivial, ?_⟩; gi_at_call 76; refine (callsIn_wide.2 (compact_calls v _ _ _ _ hR2)).mono ?_; rintro e W3 ⟨v3, rfl, hR3, hg3⟩))
  have hne := own_not_other hrow hK rfl
  have hlt : D < W.heap.size := (Array.getElem?_eq_some_iff.1 hK).1
  have hK2 : W2.heap[D]? = some (.deferred (some [])) := (hg2.block D hlt hne).trans hK
  have hK3 : W3.heap[D]? = some (.deferred (some [])) := (hg3.block D (Nat.lt_of_lt_of_le hlt hg2.size) hne).trans hK2
  have hB2 := hB.grown hg2 hB.size (own_base hrow)
  have hB3 := hB2.grown hg3 hB2.size (own_base hrow)
  refine ⟨zq14, .inl ⟨_, _, rfl, run_takeDeferred hK3, ?_⟩⟩
  obtain ⟨inner, ho3⟩ := Kd.R_own hR3
  refine ⟨_, results_tmp rfl _ _ _, _, rfl, ?_, hB3.trans (belowK_b (w := w) (Nat.le_refl _) W3 D _ _ zq3 hK3 rfl rfl)⟩
  rw [← sort_compact]
  exact Kd.R_grown1 hR3 rfl (grownBy_putObj' W3 D _) (own_not_other ho3 hK3 rfl)
 case stop =>
  rintro D c pre W _ _ h _
  exact h.elim
end Go.Proofs.Ytmgmdnmfalepkaa.Tri

namespace Go.Proofs.Ytmgmdnmfalepkaa.Build
open Go Go.ChangeMaps Go.RowKit Go.Maps Go.Proofs.YtmgmdnmfalepkaaW.PrintWords Go.Proofs.YtmgmdnmfalepkaaW.PrintMore Go.Proofs.Ytmgmdnmfalepkaa.Kit Go.Proofs.Ytmgmdnmfalepkaa.PKit Go.Proofs.Ytmgmdnmfalepkaa.Ty Go.Proofs.Ytmgmdnmfalepkaa.HelpBB Go.Proofs.Ytmgmdnmfalepkaa.PTri Go.Proofs.Ytmgmdnmfalepkaa.PSeg Go.Proofs.Ytmgmdnmfalepkaa.MapG Go.Proofs.Ytmgmdnmfalepkaa.HelpSeg
set_option linter.unusedVariables false
theorem infoI : (Try.prog.info? 3).map (fun i => (i.zero, i.size, i.bytes)) = some (some (.int .i64 0), 1, 8) := by kernel_rfl
theorem infoII : (Try.prog.info? 22).map (fun i => (i.zero, i.size, i.bytes)) = some (some (.slice none 0 0), 1, 24) := by kernel_rfl
theorem bad_M (w : World) (base : Nat) : tSeg.M w base (fun _ => True) (0, [], [], []) (.agg #[.int .i64 0, .slice none 0 0, .slice none 0 0, .slice none 0 0]) :=
 ⟨[.int .i64 0, .slice none 0 0, .slice none 0 0, .slice none 0 0], rfl, tys.M_mono (fun _ _ => trivial) (Tys.cons_apart (a := Ty.sc (Value.int .i64)) (ok1 := fun _ => False) rfl (Tys.cons_apart (a := HelpBB.tBB) (ok1 := fun _ => False) (Kd.S_nil _ _ _ _ _) (Tys.cons_apart (a := HelpI.tI) (ok1 := fun _ => False) (Kd.R_nil _ _ _ _ _) (Tys.M_one (a := HelpII.tII) (ok := fun _ => False) (Kd.S_nil _ _ _ _ _)) (fun _ _ h => h)) (fun _ _ h => h)) (fun _ _ h => h))⟩
theorem build_bad {b : Int} {ls : List (List Int)} (h : fits b ls = false) : build b ls = ((0, [], [], []), 4) := by
 unfold build
 rw [h]
 rfl
theorem fits_b {b : Int} {ls : List (List Int)} (h : ¬ (0 ≤ b ∧ b ≤ 1000 ∧ 1 ≤ ls.length ∧ b + (ls.length : Int) ≤ 1000 ∧ plain ls = true ∧ totalB ls ≤ 20000)) : fits b ls = false := by
 cases hf : fits b ls with
 | false => rfl
 | true =>
  refine absurd ?_ h
  unfold fits at hf
  simp only [Bool.and_eq_true, decide_eq_true_eq] at hf
  obtain ⟨⟨⟨⟨⟨h1, h2⟩, h3⟩, h4⟩, h5⟩, h6⟩ := hf
  exact ⟨h1, h2, h3, h4, h5, h6⟩
theorem build_good {b : Int} {ls : List (List Int)} (h : 0 ≤ b ∧ b ≤ 1000 ∧ 1 ≤ ls.length ∧ b + (ls.length : Int) ≤ 1000 ∧ plain ls = true ∧ totalB ls ≤ 20000) : build b ls = (seg b ls, 0) := by
 unfold build
 have : fits b ls = true := by
  unfold fits
  simp only [Bool.and_eq_true, decide_eq_true_eq]
  exact ⟨⟨⟨⟨⟨h.1, h.2.1⟩, h.2.2.1⟩, h.2.2.2.1⟩, h.2.2.2.2.1⟩, h.2.2.2.2.2⟩
 rw [this]
 rfl
theorem plain_at {ls : List (List Int)} {i : Nat} (hi : i < ls.length) (h : 10 ∈ ls.getD i []) : plain ls = false := by
 cases hp : plain ls with
 | false => rfl
 | true =>
  have h2 := List.all_eq_true.1 hp (ls.getD i []) (by
   have e : ls.getD i [] = ls[i] := by simp [List.getD, List.getElem?_eq_getElem hi]
   rw [e]
   exact List.getElem_mem hi)
  exact absurd h (of_decide_eq_true h2)
def upTo (b : Int) (ls : List (List Int)) (i j : Nat) (k : Int) : List Int := post b ls i k ++ (if k ∈ (ord (tris (ls.getD i []))).take j then [b + (i : Int)] else [])
theorem upTo_zero (b : Int) (ls : List (List Int)) (i : Nat) (k : Int) : post b ls i k = upTo b ls i 0 k := by simp [upTo]
theorem upTo_full (b : Int) (ls : List (List Int)) (i : Nat) (k : Int) : upTo b ls i (ord (tris (ls.getD i []))).length k = post b ls (i + 1) k := by
 unfold upTo
 rw [post_succ, List.take_length]
 congr 1
 by_cases h : k ∈ tris (ls.getD i [])
 ·rw [if_pos ((mem_ord _ _).2 h), if_pos (show hasT ls k i = true from decide_eq_true h)]
 ·rw [if_neg (fun hm => h ((mem_ord _ _).1 hm)), if_neg (by unfold hasT; rw [decide_eq_false h]; simp)]
theorem not_take {T : List Int} (h : Asc T) {j : Nat} (hj : j < T.length) : T[j] ∉ T.take j := by
 intro hm
 obtain ⟨i, hi, e⟩ := List.getElem_of_mem hm
 rw [List.length_take] at hi
 rw [List.getElem_take] at e
 have := asc_get h (show i < j by omega) hj
 omega
theorem upTo_same (b : Int) (ls : List (List Int)) (i j : Nat) (hj : j < (ord (tris (ls.getD i []))).length) :
  upTo b ls i j (ord (tris (ls.getD i [])))[j] = post b ls i (ord (tris (ls.getD i [])))[j] ∧ upTo b ls i (j + 1) (ord (tris (ls.getD i [])))[j] = post b ls i (ord (tris (ls.getD i [])))[j] ++ [b + (i : Int)] := by
 constructor
 ·unfold upTo
  rw [if_neg (not_take (asc_ord _) hj), List.append_nil]
 ·unfold upTo
  rw [if_pos (by rw [List.take_succ_eq_append_getElem hj]; exact List.mem_append.2 (.inr (List.mem_singleton.2 rfl)))]
theorem upTo_other (b : Int) (ls : List (List Int)) (i j : Nat) (hj : j < (ord (tris (ls.getD i []))).length) (k : Int) (hk : k ≠ (ord (tris (ls.getD i [])))[j]) : upTo b ls i (j + 1) k = upTo b ls i j k := by
 unfold upTo
 rw [List.take_succ_eq_append_getElem hj]
 simp only [List.mem_append, List.mem_singleton, hk, or_false]
theorem post_nil (b : Int) (ls : List (List Int)) (k : Int) : post b ls 0 k = [] := rfl
theorem post_ne (b : Int) (ls : List (List Int)) (k : Int) : post b ls ls.length k ≠ [] ↔ k ∈ ls.flatMap tris := by
 unfold post
 constructor
 ·intro h
  rcases hx : (List.range ls.length).filter (hasT ls k) with _ | ⟨i, r⟩
  ·rw [hx] at h
   exact absurd rfl h
  ·have hm : i ∈ (List.range ls.length).filter (hasT ls k) := by rw [hx]; exact List.mem_cons_self ..
   obtain ⟨h1, h2⟩ := List.mem_filter.1 hm
   have hi : i < ls.length := List.mem_range.1 h1
   have h3 : k ∈ tris (ls.getD i []) := of_decide_eq_true h2
   have e : ls.getD i [] = ls[i] := by simp [List.getD, List.getElem?_eq_getElem hi]
   rw [e] at h3
   exact List.mem_flatMap.2 ⟨ls[i], List.getElem_mem hi, h3⟩
 ·intro h e
  obtain ⟨l, hl, hk⟩ := List.mem_flatMap.1 h
  obtain ⟨i, hi, rfl⟩ := List.getElem_of_mem hl
  have hm : i ∈ (List.range ls.length).filter (hasT ls k) := List.mem_filter.2 ⟨List.mem_range.2 hi, decide_eq_true (by
   have e : ls.getD i [] = ls[i] := by simp [List.getD, List.getElem?_eq_getElem hi]
   rw [e]
   exact hk)⟩
  rw [List.map_eq_nil_iff] at e
  rw [e] at hm
  cases hm
theorem ownsMap_below {w W : World} {base b n : Nat} {D : DataW Unit} (h : w.ownsGroups Try.prog 3 base 3 .i64 b n D) (hb : W.heap[b]? = w.heap[b]?) : W.ownsMap Try.prog 3 (rowElem w base 3 .i64) b n D := by
 obtain ⟨es, clock, h1, F, hs, rfl, _⟩ := h
 exact ⟨es, clock, hb.trans h1, F, hs, rfl⟩
theorem groups_lt {w : World} {base b n : Nat} {D : DataW Unit} (h : w.ownsGroups Try.prog 3 base 3 .i64 b n D) : b < w.heap.size := by
 obtain ⟨es, clock, h1, _⟩ := h
 exact (Array.getElem?_eq_some_iff.1 h1).1
def okP (Ent : Value → Value → Prop) (K : List Int) (lo hi top q : Nat) : Nat → Prop := fun k => (lo < k ∧ k < hi ∧ ∃ j, j < q ∧ ∃ v, Ent (.int .i64 (K.getD j 0)) v ∧ some k = v.ownBlock) ∨ top ≤ k
theorem wpList_lookup_run {P : Program} (w : World) {ops : Array Oper} {rest : List Oper} {o : Oper} {a : Act} {Q : Exit → Act → World → Prop} (hg : o.guard = none) (m x : Operand) (t : TypeId) (hop : o.op = Op.lookup t m x false)
  {mv key v : Value} (hm : a.eval m = mv) (hx : a.eval x = key) (hrun : (Instr.lookup t mv key false).run P w = .ok v w) (hK : wpList P ops Q rest (a.put o.dst v) w) : wpList P ops Q (o :: rest) a w := by
 refine wpList_plain hg fun K' hK' => ?_
 unfold Oper.wp
 simp [execOp, hop, hm, hx, hrun, Result.andThen]
 exact hK' _ _ hK
theorem groups_below {w W : World} {base b n : Nat} {D : DataW Unit} (h : w.ownsGroups Try.prog 3 base 3 .i64 b n D) (hB : Below w.heap.size w W) : W.ownsGroups Try.prog 3 base 3 .i64 b n D :=
 h.kept (row := none) ⟨hB.os, hB.tape, hB.output, hB.size, fun k hk _ => hB.block k hk⟩ zq14 (fun es clock hb x hx => by
  cases x.val.ownBlock with
  | none => exact .inl rfl
  | some g => exact .inr zq14)
set_option maxRecDepth 100000 in
set_option maxHeartbeats 2000000 in
theorem build_calls (b : Int) (A : Option Addr) (c : Nat) (ls : List (List Int)) (w : World) (hr : Kd.C kB w A ls.length ls) (hc : ls.length ≤ c) (hb : Bytes ls) (hs : smallBB ls) :
  Calls Try.prog 40 #[.int .i64 b, .slice A ls.length c] w fun e w' => ∃ v, e = .returned (.tuple #[v, .int .i64 (build b ls).2]) ∧ tSeg.M w' w.heap.size (fun _ => True) (build b ls).1 v ∧ Grew w w' := by
 have huI := Try.underlying50
 have hs' : ls.length + totalB ls ≤ 1048576 := hs
 have HR := zA hr
 have HC := zA hc
 have HY := zA hb
 clear hr hc hb
 by_cases c1 : b < 0
 ·go_enter Try.func40, Try.ntmps40
  go_wp2_with ((with_reducible refine gate_dst (N := 4) rfl ?_); refine box_event ?hg (N := 4) ?hd (cs := #[.int .i64 0, .slice none 0 0, .slice none 0 0, .slice none 0 0]) (t := 50) ?hr ?_; (case hd => rfl); (case hg => rfl); (case hr => first | (go_simp; done) | (go_simp; rfl)); intro g1 hg w1 hbox hb; have BK1 := zA hbox; have GE1 := zA (show w.heap.size ≤ g1 from Nat.le_of_eq hg.symm); have GL1 := zA (blk_lt hbox); have HB := zA hb; clear hbox hb hg; have hcg10 : w1.cell? ⟨g1, 0, none⟩ = some (.int .i64 0) := (blk_cell BK1.out 0).trans rfl; have hfg10 := blk_frozen BK1.out 0; have hcg11 : w1.cell? ⟨g1, 1, none⟩ = some (.slice none 0 0) := (blk_cell BK1.out 1).trans rfl; have hfg11 := blk_frozen BK1.out 1; have hcg12 : w1.cell? ⟨g1, 2, none⟩ = some (.slice none 0 0) := (blk_cell BK1.out 2).trans rfl; have hfg12 := blk_frozen BK1.out 2; have hcg13 : w1.cell? ⟨g1, 3, none⟩ = some (.slice none 0 0) := (blk_cell BK1.out 3).trans rfl; have hfg13 := blk_frozen BK1.out 3)
  refine bodyPost_ret (results_ct rfl _ _ g1 50 #[.int .i64 0, .slice none 0 0, .slice none 0 0, .slice none 0 0] (0, 0) _ rfl (by (with_reducible repeat (first | refine blk_drewN ?_ _ | refine blk_drew ?_ | refine blk_alloc ?_ _)); refine blk_put (cs := #[.int .i64 0, .slice none 0 0, .slice none 0 0, .slice none 0 0]) ?_ 3 _ rfl; (with_reducible repeat (first | refine blk_drewN ?_ _ | refine blk_drew ?_ | refine blk_alloc ?_ _)); refine blk_put (cs := #[.int .i64 0, .slice none 0 0, .slice none 0 0, .slice none 0 0]) ?_ 2 _ rfl; (with_reducible repeat (first | refine blk_drewN ?_ _ | refine blk_drew ?_ | refine blk_alloc ?_ _)); refine blk_put (cs := #[.int .i64 0, .slice none 0 0, .slice none 0 0, .slice none 0 0]) ?_ 1 _ rfl; (with_reducible repeat (first | refine blk_drewN ?_ _ | refine blk_drew ?_ | refine blk_alloc ?_ _)); refine blk_put (cs := #[.int .i64 0, .slice none 0 0, .slice none 0 0, .slice none 0 0]) ?_ 0 _ rfl; (with_reducible repeat (first | refine blk_drewN ?_ _ | refine blk_drew ?_ | refine blk_alloc ?_ _)); exact BK1.out) Try.underlying50 rfl zq12) rfl ?_
  rw [build_bad (fits_b zq3)]
  exact ⟨_, rfl, bad_M _ _, below_set (below_set (below_set (below_set (HB.out) GE1.out) GE1.out) GE1.out) GE1.out⟩
 by_cases c2 : b > 1000
 ·go_enter Try.func40, Try.ntmps40
  go_wp2_with ((with_reducible refine gate_dst (N := 4) rfl ?_); refine box_event ?hg (N := 4) ?hd (cs := #[.int .i64 0, .slice none 0 0, .slice none 0 0, .slice none 0 0]) (t := 50) ?hr ?_; (case hd => rfl); (case hg => rfl); (case hr => first | (go_simp; done) | (go_simp; rfl)); intro g1 hg w1 hbox hb; have BK1 := zA hbox; have GE1 := zA (show w.heap.size ≤ g1 from Nat.le_of_eq hg.symm); have GL1 := zA (blk_lt hbox); have HB := zA hb; clear hbox hb hg; have hcg10 : w1.cell? ⟨g1, 0, none⟩ = some (.int .i64 0) := (blk_cell BK1.out 0).trans rfl; have hfg10 := blk_frozen BK1.out 0; have hcg11 : w1.cell? ⟨g1, 1, none⟩ = some (.slice none 0 0) := (blk_cell BK1.out 1).trans rfl; have hfg11 := blk_frozen BK1.out 1; have hcg12 : w1.cell? ⟨g1, 2, none⟩ = some (.slice none 0 0) := (blk_cell BK1.out 2).trans rfl; have hfg12 := blk_frozen BK1.out 2; have hcg13 : w1.cell? ⟨g1, 3, none⟩ = some (.slice none 0 0) := (blk_cell BK1.out 3).trans rfl; have hfg13 := blk_frozen BK1.out 3)
  refine bodyPost_ret (results_ct rfl _ _ g1 50 #[.int .i64 0, .slice none 0 0, .slice none 0 0, .slice none 0 0] (0, 0) _ rfl (by (with_reducible repeat (first | refine blk_drewN ?_ _ | refine blk_drew ?_ | refine blk_alloc ?_ _)); refine blk_put (cs := #[.int .i64 0, .slice none 0 0, .slice none 0 0, .slice none 0 0]) ?_ 3 _ rfl; (with_reducible repeat (first | refine blk_drewN ?_ _ | refine blk_drew ?_ | refine blk_alloc ?_ _)); refine blk_put (cs := #[.int .i64 0, .slice none 0 0, .slice none 0 0, .slice none 0 0]) ?_ 2 _ rfl; (with_reducible repeat (first | refine blk_drewN ?_ _ | refine blk_drew ?_ | refine blk_alloc ?_ _)); refine blk_put (cs := #[.int .i64 0, .slice none 0 0, .slice none 0 0, .slice none 0 0]) ?_ 1 _ rfl; (with_reducible repeat (first | refine blk_drewN ?_ _ | refine blk_drew ?_ | refine blk_alloc ?_ _)); refine blk_put (cs := #[.int .i64 0, .slice none 0 0, .slice none 0 0, .slice none 0 0]) ?_ 0 _ rfl; (with_reducible repeat (first | refine blk_drewN ?_ _ | refine blk_drew ?_ | refine blk_alloc ?_ _)); exact BK1.out) Try.underlying50 rfl zq12) rfl ?_
  rw [build_bad (fits_b zq3)]
  exact ⟨_, rfl, bad_M _ _, below_set (below_set (below_set (below_set (HB.out) GE1.out) GE1.out) GE1.out) GE1.out⟩
 by_cases c3 : (ls.length : Int) < 1
 ·go_enter Try.func40, Try.ntmps40
  go_wp2_with ((with_reducible refine gate_dst (N := 4) rfl ?_); refine box_event ?hg (N := 4) ?hd (cs := #[.int .i64 0, .slice none 0 0, .slice none 0 0, .slice none 0 0]) (t := 50) ?hr ?_; (case hd => rfl); (case hg => rfl); (case hr => first | (go_simp; done) | (go_simp; rfl)); intro g1 hg w1 hbox hb; have BK1 := zA hbox; have GE1 := zA (show w.heap.size ≤ g1 from Nat.le_of_eq hg.symm); have GL1 := zA (blk_lt hbox); have HB := zA hb; clear hbox hb hg; have hcg10 : w1.cell? ⟨g1, 0, none⟩ = some (.int .i64 0) := (blk_cell BK1.out 0).trans rfl; have hfg10 := blk_frozen BK1.out 0; have hcg11 : w1.cell? ⟨g1, 1, none⟩ = some (.slice none 0 0) := (blk_cell BK1.out 1).trans rfl; have hfg11 := blk_frozen BK1.out 1; have hcg12 : w1.cell? ⟨g1, 2, none⟩ = some (.slice none 0 0) := (blk_cell BK1.out 2).trans rfl; have hfg12 := blk_frozen BK1.out 2; have hcg13 : w1.cell? ⟨g1, 3, none⟩ = some (.slice none 0 0) := (blk_cell BK1.out 3).trans rfl; have hfg13 := blk_frozen BK1.out 3)
  refine bodyPost_ret (results_ct rfl _ _ g1 50 #[.int .i64 0, .slice none 0 0, .slice none 0 0, .slice none 0 0] (0, 0) _ rfl (by (with_reducible repeat (first | refine blk_drewN ?_ _ | refine blk_drew ?_ | refine blk_alloc ?_ _)); refine blk_put (cs := #[.int .i64 0, .slice none 0 0, .slice none 0 0, .slice none 0 0]) ?_ 3 _ rfl; (with_reducible repeat (first | refine blk_drewN ?_ _ | refine blk_drew ?_ | refine blk_alloc ?_ _)); refine blk_put (cs := #[.int .i64 0, .slice none 0 0, .slice none 0 0, .slice none 0 0]) ?_ 2 _ rfl; (with_reducible repeat (first | refine blk_drewN ?_ _ | refine blk_drew ?_ | refine blk_alloc ?_ _)); refine blk_put (cs := #[.int .i64 0, .slice none 0 0, .slice none 0 0, .slice none 0 0]) ?_ 1 _ rfl; (with_reducible repeat (first | refine blk_drewN ?_ _ | refine blk_drew ?_ | refine blk_alloc ?_ _)); refine blk_put (cs := #[.int .i64 0, .slice none 0 0, .slice none 0 0, .slice none 0 0]) ?_ 0 _ rfl; (with_reducible repeat (first | refine blk_drewN ?_ _ | refine blk_drew ?_ | refine blk_alloc ?_ _)); exact BK1.out) Try.underlying50 rfl zq12) rfl ?_
  rw [build_bad (fits_b zq3)]
  exact ⟨_, rfl, bad_M _ _, below_set (below_set (below_set (below_set (HB.out) GE1.out) GE1.out) GE1.out) GE1.out⟩
 by_cases c4 : b + (ls.length : Int) > 1000
 ·go_enter Try.func40, Try.ntmps40
  go_wp2_with ((with_reducible refine gate_dst (N := 4) rfl ?_); refine box_event ?hg (N := 4) ?hd (cs := #[.int .i64 0, .slice none 0 0, .slice none 0 0, .slice none 0 0]) (t := 50) ?hr ?_; (case hd => rfl); (case hg => rfl); (case hr => first | (go_simp; done) | (go_simp; rfl)); intro g1 hg w1 hbox hb; have BK1 := zA hbox; have GE1 := zA (show w.heap.size ≤ g1 from Nat.le_of_eq hg.symm); have GL1 := zA (blk_lt hbox); have HB := zA hb; clear hbox hb hg; have hcg10 : w1.cell? ⟨g1, 0, none⟩ = some (.int .i64 0) := (blk_cell BK1.out 0).trans rfl; have hfg10 := blk_frozen BK1.out 0; have hcg11 : w1.cell? ⟨g1, 1, none⟩ = some (.slice none 0 0) := (blk_cell BK1.out 1).trans rfl; have hfg11 := blk_frozen BK1.out 1; have hcg12 : w1.cell? ⟨g1, 2, none⟩ = some (.slice none 0 0) := (blk_cell BK1.out 2).trans rfl; have hfg12 := blk_frozen BK1.out 2; have hcg13 : w1.cell? ⟨g1, 3, none⟩ = some (.slice none 0 0) := (blk_cell BK1.out 3).trans rfl; have hfg13 := blk_frozen BK1.out 3)
  refine bodyPost_ret (results_ct rfl _ _ g1 50 #[.int .i64 0, .slice none 0 0, .slice none 0 0, .slice none 0 0] (0, 0) _ rfl (by (with_reducible repeat (first | refine blk_drewN ?_ _ | refine blk_drew ?_ | refine blk_alloc ?_ _)); refine blk_put (cs := #[.int .i64 0, .slice none 0 0, .slice none 0 0, .slice none 0 0]) ?_ 3 _ rfl; (with_reducible repeat (first | refine blk_drewN ?_ _ | refine blk_drew ?_ | refine blk_alloc ?_ _)); refine blk_put (cs := #[.int .i64 0, .slice none 0 0, .slice none 0 0, .slice none 0 0]) ?_ 2 _ rfl; (with_reducible repeat (first | refine blk_drewN ?_ _ | refine blk_drew ?_ | refine blk_alloc ?_ _)); refine blk_put (cs := #[.int .i64 0, .slice none 0 0, .slice none 0 0, .slice none 0 0]) ?_ 1 _ rfl; (with_reducible repeat (first | refine blk_drewN ?_ _ | refine blk_drew ?_ | refine blk_alloc ?_ _)); refine blk_put (cs := #[.int .i64 0, .slice none 0 0, .slice none 0 0, .slice none 0 0]) ?_ 0 _ rfl; (with_reducible repeat (first | refine blk_drewN ?_ _ | refine blk_drew ?_ | refine blk_alloc ?_ _)); exact BK1.out) Try.underlying50 rfl zq12) rfl ?_
  rw [build_bad (fits_b zq3)]
  exact ⟨_, rfl, bad_M _ _, below_set (below_set (below_set (below_set (HB.out) GE1.out) GE1.out) GE1.out) GE1.out⟩
 go_enter Try.func40, Try.ntmps40
 go_wp2_with ((with_reducible refine gate_dst (N := 4) rfl ?_); refine box_event ?hg (N := 4) ?hd (cs := #[.int .i64 0, .slice none 0 0, .slice none 0 0, .slice none 0 0]) (t := 50) ?hr ?_; (case hd => rfl); (case hg => rfl); (case hr => first | (go_simp; done) | (go_simp; rfl)); intro g1 hg w1 hbox hb; have BK1 := zA hbox; have GE1 := zA (show w.heap.size ≤ g1 from Nat.le_of_eq hg.symm); have GL1 := zA (blk_lt hbox); have HB := zA hb; clear hbox hb hg; have hcg10 : w1.cell? ⟨g1, 0, none⟩ = some (.int .i64 0) := (blk_cell BK1.out 0).trans rfl; have hfg10 := blk_frozen BK1.out 0; have hcg11 : w1.cell? ⟨g1, 1, none⟩ = some (.slice none 0 0) := (blk_cell BK1.out 1).trans rfl; have hfg11 := blk_frozen BK1.out 1; have hcg12 : w1.cell? ⟨g1, 2, none⟩ = some (.slice none 0 0) := (blk_cell BK1.out 2).trans rfl; have hfg12 := blk_frozen BK1.out 2; have hcg13 : w1.cell? ⟨g1, 3, none⟩ = some (.slice none 0 0) := (blk_cell BK1.out 3).trans rfl; have hfg13 := blk_frozen BK1.out 3)
 go_loopg [37] ls.length (fun gg s37 wr => ∃ i : Nat, i ≤ ls.length ∧ ls.length - i ≤ gg ∧ s37 = .int .i64 i ∧ w1 = wr ∧ Aside0 (plain (ls.take i) = true))
 case atStart => exact ⟨0, zq3, zq3, rfl, rfl, ⟨rfl⟩⟩
 case round =>
  obtain ⟨i, hi, hg, rfl, rfl, HP⟩ := hrel
  by_cases hlt : i < ls.length
  ·have hltz : (i : Int) < (ls.length : Int) := by omega
   obtain ⟨ad, u, rfl, hcell0, hK⟩ := get_one (d := kB) rfl HR.out [] i hlt
   obtain ⟨A', c', e', hc', hr'⟩ := hK
   obtain rfl : u = .slice A' (ls.getD i []).length c' := by injection e'
   have hcell : w1.cell? (ad.add i) = some (.slice A' (ls.getD i []).length c') := (HB.out.cell (World.block_lt_of_cell? w _ hcell0)).trans hcell0
   have HL := zA (Kd.C_below hr' HB.out)
   have HLB := zA (getD_bytes HY.out i)
   have hbad : 10 ∈ ls.getD i [] → plain ls = false := plain_at hlt
   have hpl : 10 ∉ ls.getD i [] → plain (ls.take (i + 1)) = true := fun h => by
    rw [take_snoc ls i hlt]
    have := HP.out
    unfold plain at this ⊢
    rw [List.all_append, this]
    simp only [List.all_cons, List.all_nil, Bool.and_true, Bool.true_and]
    exact decide_eq_true h
   have HBD := zA hbad
   have HPL := zA hpl
   clear hr' e' hcell0 hbad hpl
   generalize hx : ls.getD i [] = l at hcell HL HLB HBD HPL hc'
   clear hx
   have hone := one_calls A' c' l w1 HL.out hc' HLB.out
   by_cases h10 : 10 ∈ l
   ·rw [decide_eq_false (fun h => h h10)] at hone
    go_wp2_with (go_at_call 93; refine hone.mono ?_; rintro e w' ⟨rfl, hw_⟩; subst w')
    refine bodyPost_ret (results_ct rfl _ _ g1 50 #[.int .i64 0, .slice none 0 0, .slice none 0 0, .slice none 0 0] (0, 0) _ rfl (by (with_reducible repeat (first | refine blk_drewN ?_ _ | refine blk_drew ?_ | refine blk_alloc ?_ _)); refine blk_put (cs := #[.int .i64 0, .slice none 0 0, .slice none 0 0, .slice none 0 0]) ?_ 3 _ rfl; (with_reducible repeat (first | refine blk_drewN ?_ _ | refine blk_drew ?_ | refine blk_alloc ?_ _)); refine blk_put (cs := #[.int .i64 0, .slice none 0 0, .slice none 0 0, .slice none 0 0]) ?_ 2 _ rfl; (with_reducible repeat (first | refine blk_drewN ?_ _ | refine blk_drew ?_ | refine blk_alloc ?_ _)); refine blk_put (cs := #[.int .i64 0, .slice none 0 0, .slice none 0 0, .slice none 0 0]) ?_ 1 _ rfl; (with_reducible repeat (first | refine blk_drewN ?_ _ | refine blk_drew ?_ | refine blk_alloc ?_ _)); refine blk_put (cs := #[.int .i64 0, .slice none 0 0, .slice none 0 0, .slice none 0 0]) ?_ 0 _ rfl; (with_reducible repeat (first | refine blk_drewN ?_ _ | refine blk_drew ?_ | refine blk_alloc ?_ _)); exact BK1.out) Try.underlying50 rfl zq12) rfl ?_
    rw [build_bad (fits_b (by rw [HBD.out h10]; simp))]
    exact ⟨_, rfl, bad_M _ _, below_set (below_set (below_set (below_set (HB.out) GE1.out) GE1.out) GE1.out) GE1.out⟩
   ·rw [decide_eq_true h10] at hone
    go_wp2_with (go_at_call 93; refine hone.mono ?_; rintro e w' ⟨rfl, hw_⟩; subst w')
    go_roundg (ls.length - (i + 1))
    case measure => omega
    case rel => exact ⟨i + 1, zq3, zq3, by go_num, rfl, ⟨HPL.out h10⟩⟩
  ·have hltz : ¬ (i : Int) < (ls.length : Int) := by omega
   obtain rfl : i = ls.length := by omega
   have hp := HP.out
   rw [List.take_length] at hp
   have HPP := zA hp
   clear hp HP
   have htot := total_calls A c ls w1 (Kd.C_below HR.out HB.out) HC.out hs
   by_cases c5 : (totalB ls : Int) > 20000
   ·go_wp2_with (go_at_call 94; refine htot.mono ?_; rintro e w' ⟨rfl, hw_⟩; subst w')
    refine bodyPost_ret (results_ct rfl _ _ g1 50 #[.int .i64 0, .slice none 0 0, .slice none 0 0, .slice none 0 0] (0, 0) _ rfl (by (with_reducible repeat (first | refine blk_drewN ?_ _ | refine blk_drew ?_ | refine blk_alloc ?_ _)); refine blk_put (cs := #[.int .i64 0, .slice none 0 0, .slice none 0 0, .slice none 0 0]) ?_ 3 _ rfl; (with_reducible repeat (first | refine blk_drewN ?_ _ | refine blk_drew ?_ | refine blk_alloc ?_ _)); refine blk_put (cs := #[.int .i64 0, .slice none 0 0, .slice none 0 0, .slice none 0 0]) ?_ 2 _ rfl; (with_reducible repeat (first | refine blk_drewN ?_ _ | refine blk_drew ?_ | refine blk_alloc ?_ _)); refine blk_put (cs := #[.int .i64 0, .slice none 0 0, .slice none 0 0, .slice none 0 0]) ?_ 1 _ rfl; (with_reducible repeat (first | refine blk_drewN ?_ _ | refine blk_drew ?_ | refine blk_alloc ?_ _)); refine blk_put (cs := #[.int .i64 0, .slice none 0 0, .slice none 0 0, .slice none 0 0]) ?_ 0 _ rfl; (with_reducible repeat (first | refine blk_drewN ?_ _ | refine blk_drew ?_ | refine blk_alloc ?_ _)); exact BK1.out) Try.underlying50 rfl zq12) rfl ?_
    rw [build_bad (fits_b zq3)]
    exact ⟨_, rfl, bad_M _ _, below_set (below_set (below_set (below_set (HB.out) GE1.out) GE1.out) GE1.out) GE1.out⟩
   have HG := zA (show 0 ≤ b ∧ b ≤ 1000 ∧ 1 ≤ ls.length ∧ b + (ls.length : Int) ≤ 1000 ∧ plain ls = true ∧ totalB ls ≤ 20000 from ⟨zq3, zq3, zq3, zq3, HPP.out, zq3⟩)
   have hmm := @run_makeMap Try.prog
   have hW := World.ownsGroups_made (H := Unit) w1 Try.prog 3 3 .i64
   go_wp2_with (go_at_call 94; refine htot.mono ?_; rintro e w' ⟨rfl, hw_⟩; subst w')
   obtain ⟨i0, hi0, hz0, hz1, hz2⟩ := info_parts infoI
   have hb0 := HG.out.1
   have hb1 := HG.out.2.1
   have hb2 := HG.out.2.2.2.1
   have htl := HG.out.2.2.2.2.2
   go_loopg [53] ls.length (fun gg s53 wr => ∃ i : Nat, i ≤ ls.length ∧ ls.length - i ≤ gg ∧ s53 = .int .i64 i ∧ Aside0 (∃ D n, wr.ownsGroups Try.prog 3 (w1.heap.size + 1) 3 .i64 w1.heap.size n D ∧ Grp (post b ls i) D ∧ n ≤ totalB (ls.take i)) ∧ Aside0 (Below w1.heap.size w1 wr))
   case atStart => exact ⟨0, zq3, zq3, rfl, ⟨⟨_, 0, hW, Grp.start.congr (fun k => (post_nil b ls k).symm), Nat.zero_le _⟩⟩, ⟨below_alloc (Below.refl _ _) _⟩⟩
   case round =>
    rename World => wo
    obtain ⟨i, hi, hg, rfl, HD, HB1⟩ := hrel
    obtain ⟨D, n, hown, hD, hn⟩ := HD.out
    have HO := zA hown
    have HF := zA hD
    have HN := zA hn
    clear HD hown hD hn
    by_cases hlt : i < ls.length
    ·have hltz : (i : Int) < (ls.length : Int) := by omega
     have HBW := zA (below_then HB.out HB.out.size HB1.out)
     obtain ⟨ad, u, rfl, hcell0, hK⟩ := get_one (d := kB) rfl HR.out [] i hlt
     obtain ⟨A', c', e', hc', hr'⟩ := hK
     obtain rfl : u = .slice A' (ls.getD i []).length c' := by injection e'
     have hcell : wo.cell? (ad.add i) = some (.slice A' (ls.getD i []).length c') := (HBW.out.cell (World.block_lt_of_cell? w _ hcell0)).trans hcell0
     have HL := zA (Kd.C_below hr' HBW.out)
     have HLB := zA (getD_bytes HY.out i)
     have HLN := zA (getD_len ls i)
     have HTD := zA (total_drop ls i hlt)
     have HTT := zA (total_take ls (i + 1))
     clear hr' e' hcell0
     generalize hx : ls.getD i [] = l at hcell HL HLB HLN HTD hc'
     have HX := zA hx
     clear hx
     have htri := Tri.tri_calls A' c' l wo HL.out hc' HLB.out (by have := HLN.out; omega)
     have hTl : (ord (tris l)).length ≤ l.length := by have h1 := ord_len (tris l); have h2 := tris_length l; omega
     have HTA := zA (asc_ord (tris l))
     have HTB := zA (show ∀ x ∈ ord (tris l), 0 ≤ x ∧ x ≤ 16777215 from fun x hx => tris_bd l HLB.out x ((mem_ord _ _).1 hx))
     generalize hT : ord (tris l) = T at htri hTl HTA HTB
     have HT := zA hT
     clear hT
     go_wp2_with (go_at_call 21; refine htri.mono ?_; rintro e w2 ⟨vt, rfl, hRt, hgt⟩; obtain ⟨At, ct, rfl⟩ := Kd.R_slice hRt)
     have HW2 := zA hgt
     have hsz1 : w1.heap.size < wo.heap.size := groups_lt HO.out
     have hsh0 : wo.Shuns w1.heap.size (fun g => some g = (Value.slice At T.length ct).ownBlock) := World.Shuns.reno (No := fun _ => False) (fun _ _ _ _ _ _ _ h => h) HO.out (fun g hg => .inr (Kd.R_base hRt g hg.symm))
     have hsh1 : w2.Shuns w1.heap.size (fun g => some g = (Value.slice At T.length ct).ownBlock) := hsh0.kept (row := none) ⟨hgt.os, hgt.tape, hgt.output, hgt.size, fun k hk _ => hgt.block k hk⟩ hsz1 zq14
     go_loopg [61] T.length (fun gg s61 wi => ∃ j : Nat, j ≤ T.length ∧ T.length - j ≤ gg ∧ s61 = .int .i64 j ∧ Aside0 (∃ D n, wi.ownsGroups Try.prog 3 (w1.heap.size + 1) 3 .i64 w1.heap.size n D ∧ Grp (upTo b ls i j) D ∧ n ≤ totalB (ls.take i) + j ∧ wi.Shuns w1.heap.size (fun g => some g = (Value.slice At T.length ct).ownBlock)) ∧ Aside0 (wi.ownsRow wo.heap.size 3 1 (.slice At T.length ct) T.length (T.map (Value.int .i64))) ∧ Aside0 (Below w1.heap.size w1 wi))
     case atStart => exact ⟨0, zq3, zq3, rfl, ⟨⟨D, n, groups_below HO.out hgt, HF.out.congr (fun k => upTo_zero b ls i k), by have := HN.out; omega, hsh1⟩⟩, ⟨Kd.own_of_R hRt⟩, ⟨below_then HB1.out HB1.out.size hgt⟩⟩
     case round =>
      rename World => wi
      clear hsh0 hsh1 hRt hgt
      obtain ⟨j, hj, hgj, rfl, HD2, HRW, HB2⟩ := hrel
      obtain ⟨D2, n2, hown, hD, hn, hsh⟩ := HD2.out
      have HO2 := zA hown
      have HF2 := zA hD
      have HN2 := zA hn
      have HS2 := zA hsh
      clear HD2 hown hD hn hsh
      have hsz2 : w1.heap.size < wi.heap.size := groups_lt HO2.out
      by_cases hlj : j < T.length
      ·have hljz : (j : Int) < (T.length : Int) := by omega
       have hrow := HRW.out
       rcases hrow.2 with ⟨_, h0⟩ | ⟨gt, cap, cur, hv, hgt1, hgt2, _⟩
       ·omega
       obtain ⟨rfl, rfl⟩ : At = some ⟨gt, 0, none⟩ ∧ ct = cap := by injection hv with h1 h2 h3; exact ⟨h1, h3⟩
       have hglt : gt < wi.heap.size := (Array.getElem?_eq_some_iff.1 hgt2).1
       have hcj : wi.cell? ⟨gt, j, none⟩ = some (.int .i64 T[j]) := by have h1 := hrow.cells (g := gt) rfl j (.int .i64 T[j]) (by simp [List.getElem?_eq_getElem hlj]); rwa [show (⟨gt, 0, none⟩ : Addr).add j = ⟨gt, j, none⟩ from by unfold Addr.add; split <;> simp_all] at h1
       have htb := HTB.out T[j] (List.getElem_mem hlj)
       obtain ⟨s1, s2⟩ := upTo_same b ls i j (by rw [HX.out, HT.out]; exact hlj)
       have s3 := upTo_other b ls i j (by rw [HX.out, HT.out]; exact hlj)
       simp only [HX.out, HT.out] at s1 s2 s3
       generalize ht : T[j] = t at hcj htb s1 s2 s3
       have SS := zA (And.intro s1 (And.intro s2 s3))
       clear s1 s2 s3 hv hrow
       have hTz : T.length ≤ 1048576 := by have := HLN.out; omega
       have hnm : n2 < maxLen := by have h1 := HN2.out; have h2 := HTT.out; have h3 := HTD.out; unfold maxLen; omega
       have hn40 : n2 ≤ 40000 := by have h1 := HN2.out; have h2 := HTT.out; have h3 := HTD.out; omega
       go_wp2_with (first | (at_lookup; refine wpList_lookup_groups_shuns _ rfl _ _ 104 rfl 3 22 3 .i64 keyedI Try.underlying104 (zeroR _) (w1.heap.size + 1) w1.heap.size n2 D2 rfl HO2.out hnm (.int .i64 t) (.int .i64 t) rfl (keyI t zq3) ?_; intro u zs hat hoi hzl hback hsh) | (at_builtin; refine wpList_append_own_at _ rfl _ _ 22 rfl (w1.heap.size + 1) 3 i0 (.int .i64 0) 1 8 Try.underlying22 hi0 hz0 hz1 hz2 rfl zq13 u zs.length (zs.map (Value.int .i64)) rfl (hoi.1.alloc _) ⟨wi.heap.size, 0, none⟩ 1 1 [.int .i64 (b + (i : Int))] rfl rfl (cell_one_new _ _ _) (by simp [Value.oneCell']) (by unfold maxLen; omega) zq3 zq42 ?_; intro v' w3 hown' hgrow hnil' hat') | (at_mapUpdate; have hgr' := (World.grownBy_alloc wi (.cells #[.int .i64 (b + (i : Int))] 3) u.ownBlock).trans hgrow; have hoi' := (hoi.alloc (.cells #[.int .i64 (b + (i : Int))] 3)).appended hown' (WalkArith.wf_i64 zq3); have hlen' : (zs ++ [b + (i : Int)]).length ≤ n2 + 1 := zq28; have hno' : ∀ g, v'.ownBlock = some g → ¬ some g = (Value.slice (some ⟨gt, 0, none⟩) T.length ct).ownBlock := (fun g hg hN => by rcases hat' with h | h; (exact hsh _ HS2.out g (h ▸ hg) hN); (rw [h] at hg; have e1 : g = gt := (by simpa [Value.ownBlock] using hN); simp at hg; omega)); have hloc' : v'.ownBlock = u.ownBlock ∨ ∃ g, v'.ownBlock = some g ∧ wi.heap.size ≤ g := hat'.imp id (fun h => ⟨_, h, zq14⟩); refine wpList_mapUpdate_back_shuns _ rfl _ _ _ 104 rfl keyedI Try.underlying104 (keyI t zq3) HO2.out hnm hoi HS2.out hno' hback rfl rfl rfl hgr' hoi' hlen' hloc' ?_; intro w4 hown4 hgrow4 hsh4))
       have hz : zs = upTo b ls i j t := dat_inj hoi ((HF2.out.at_ t).symm.trans hat)
       have hgt0 : ∀ g, u.ownBlock = some g → g ≠ gt := fun g hg e => hsh _ HS2.out g hg (by rw [e]; rfl)
       go_roundg (T.length - (j + 1))
       case measure => omega
       case rel =>
        refine ⟨j + 1, zq3, zq3, by go_num, ⟨⟨_, n2 + 1, hown4, HF2.out.put (g := upTo b ls i (j + 1)) ?_ ?_ ?_, by have := HN2.out; omega, hsh4⟩⟩, ⟨?_⟩, ⟨?_⟩⟩
        ·rw [hoi'.datum_pos zq14, SS.out.2.1, hz, SS.out.1, dat_cons zq14]
        ·rw [SS.out.2.1]; simp
        ·exact fun k hk => SS.out.2.2 k hk
        ·exact (HRW.out.kept hgr' (.inr (fun e => hgt0 gt (by rw [← e]; rfl) rfl))).kept hgrow4 (.inr (fun e => by simp [Value.ownBlock] at e; omega))
        ·exact RowKit.Below.groups HB2.out hoi hgr' hgrow4 zq3 zq3 (Nat.le_refl _)
      ·have hljz : ¬ (j : Int) < (T.length : Int) := by omega
       obtain rfl : j = T.length := by omega
       go_wp2
       go_roundg (ls.length - (i + 1))
       case measure => omega
       case rel =>
        refine ⟨i + 1, zq3, zq3, by go_num, ⟨⟨D2, n2, HO2.out, HF2.out.congr (fun k => ?_), by have h1 := HN2.out; have h2 := HTD.out; omega⟩⟩, ⟨HB2.out⟩⟩
        have h1 := upTo_full b ls i k
        rw [HX.out, HT.out] at h1
        exact h1
    ·have hltz : ¬ (i : Int) < (ls.length : Int) := by omega
     obtain rfl : i = ls.length := by omega
     have hsz1 : w1.heap.size < wo.heap.size := groups_lt HO.out
     have HBW := zA (below_then HB.out HB.out.size HB1.out)
     obtain ⟨Ent, hE1, hE2⟩ := entries HO.out
     have HE1 := zA hE1
     have HE2 := zA hE2
     clear hE1 hE2
     have hcopy := copy_calls A c ls wo (Kd.C_below HR.out HBW.out) HC.out hs
     have hKl : (keys ls).length ≤ totalB ls := keys_len ls
     have hsort : ∀ wa : World, Below wo.heap.size wo wa → Calls Try.prog 96 #[.func (.func 139) #[] #[.pointer (some ⟨wa.heap.size, 0, none⟩)]] (wa.alloc (.cells #[.map (some w1.heap.size)] 104)) fun e w' => ∃ v, e = .returned v ∧ Kd.R (Kd.int .i64) 3 w' wa.heap.size (fun _ => True) v (keys ls) ∧ Below wa.heap.size wa w' := fun wa hga => sorted_calls wa (ownsMap_below HO.out (hga.block _ hsz1)) HF.out (post_ne b ls) (by have h1 := HN.out; have h2 := total_take ls ls.length; omega)
     have HKA := zA (show Asc (keys ls) from asc_ord _)
     have HKB := zA (show ∀ x ∈ keys ls, 0 ≤ x ∧ x ≤ 16777215 from fun x hx => by
      obtain ⟨l, hl, hx2⟩ := List.mem_flatMap.1 ((mem_ord _ _).1 hx)
      exact tris_bd l (fun y hy => HY.out l hl y hy) x hx2)
     have HBG := zA (build_good HG.out)
     have HSEG := zA (show seg b ls = (b, ls, keys ls, (keys ls).map (post b ls ls.length)) from rfl)
     generalize hK_ : keys ls = K at hKl hsort HKA HKB HSEG
     clear hK_
     go_wp2_with (first | (go_at_call 95; refine hcopy.mono ?_; rintro e wa ⟨v1, rfl, hS1, hga⟩; obtain ⟨A1, c1, rfl⟩ := Kd.S_slice hS1) | (go_at_call 97; refine (keys_calls _ _).mono ?_; rintro e w' ⟨rfl, hw_⟩; subst w') | (go_at_call 96; refine (hsort wa hga).mono ?_; rintro e ws ⟨v2, rfl, hR2, hgs⟩; obtain ⟨A2, c2, rfl⟩ := Kd.R_slice hR2) | ((with_reducible refine gate_dst (N := 13) rfl ?_); refine box_event ?hg (N := 13) ?hd (cs := #[.int .i64 0, .slice none 0 0, .slice none 0 0, .slice none 0 0]) (t := 50) ?hr ?_; (case hd => rfl); (case hg => rfl); (case hr => first | (go_simp; done) | (go_simp; rfl)); intro g2 hg2_ w5 hbox hb5; have HGE := zA hg2_; clear hg2_; have BK2 := zA hbox; have hcg20 : w5.cell? ⟨g2, 0, none⟩ = some (.int .i64 0) := (blk_cell hbox 0).trans rfl; have hfg20 := blk_frozen hbox 0; have hcg21 : w5.cell? ⟨g2, 1, none⟩ = some (.slice none 0 0) := (blk_cell hbox 1).trans rfl; have hfg21 := blk_frozen hbox 1; have hcg22 : w5.cell? ⟨g2, 2, none⟩ = some (.slice none 0 0) := (blk_cell hbox 2).trans rfl; have hfg22 := blk_frozen hbox 2; have hcg23 : w5.cell? ⟨g2, 3, none⟩ = some (.slice none 0 0) := (blk_cell hbox 3).trans rfl; have hfg23 := blk_frozen hbox 3))
     have hg2a : ws.heap.size ≤ g2 := Nat.le_of_eq HGE.out.symm
     have hg2b : g2 ≤ ws.heap.size := Nat.le_of_eq HGE.out
     have hl5 : ws.heap.size < w5.heap.size := by have h1 := blk_lt BK2.out; omega
     have hlW : w.heap.size ≤ w1.heap.size := HB.out.size
     have hg1 := GL1.out
     have hge1 := GE1.out
     have hlA : wo.heap.size ≤ wa.heap.size := hga.size
     have hlS : wa.heap.size ≤ ws.heap.size := hgs.size
     have HG5 := zA (show ∀ k, k < wo.heap.size → w5.heap[k]? = wo.heap[k]? from fun k hk => (hb5.block k zq3).trans ((hgs.block k zq3).trans (hga.block k hk)))
     have HM1 := zA (Kd.S_step (w1 := w5) (Kd.S_bound hS1) (fun k hk _ => (hb5.block k (by have := hk.2.2.1; omega)).trans (hgs.block k hk.2.2.1)))
     have HM2 := zA (Kd.R_step (w1 := w5) (Kd.R_bound hR2) (fun k hk _ => hb5.block k hk.2.2.1))
     have HB5 := zA (grew_trans (grew_trans (grew_trans HBW.out hga) hgs) hb5)
     have HK1 := zA ((HG5.out g1 zq3).trans (blk_below BK1.out HB1.out))
     clear hcopy hsort hS1 hR2 hga hgs hb5
     go_loopg [87] K.length (fun gg s87 wr => ∃ (q : Nat) (Ap : Option Addr) (cp : Nat), q ≤ K.length ∧ K.length - q ≤ gg ∧ s87 = .int .i64 q ∧ Aside0 (wr.heap[g2]? = some (.cells #[.int .i64 b, .slice A1 ls.length c1, .slice A2 K.length c2, .slice Ap q cp] 50 (0, 0))) ∧ Aside0 (Kd.S HelpII.kI 22 wr w.heap.size (okP Ent K w1.heap.size wo.heap.size w5.heap.size q) (.slice Ap q cp) ((K.take q).map (post b ls ls.length))) ∧ Aside0 (∀ k, (Value.slice Ap q cp).ownBlock = some k → w5.heap.size ≤ k) ∧ Aside0 (Kept w5 wr (fun k => k = g2)) ∧ Aside0 (Below w.heap.size w wr))
     case atStart =>
      refine ⟨0, none, 0, Nat.zero_le _, Nat.le_refl _, rfl, ⟨?_⟩, ⟨Kd.S_nil _ _ _ _ _⟩, ⟨fun k hk => by simp [Value.ownBlock] at hk⟩, ⟨?_⟩, ⟨?_⟩⟩
      ·(with_reducible repeat (first | refine blk_drewN ?_ _ | refine blk_drew ?_ | refine blk_alloc ?_ _)); refine blk_put (cs := #[.int .i64 b, .slice A1 ls.length c1, .slice A2 K.length c2, .slice none 0 0]) ?_ 3 _ rfl; (with_reducible repeat (first | refine blk_drewN ?_ _ | refine blk_drew ?_ | refine blk_alloc ?_ _)); refine blk_put (cs := #[.int .i64 b, .slice A1 ls.length c1, .slice none 0 0, .slice none 0 0]) ?_ 2 _ rfl; (with_reducible repeat (first | refine blk_drewN ?_ _ | refine blk_drew ?_ | refine blk_alloc ?_ _)); refine blk_put (cs := #[.int .i64 b, .slice none 0 0, .slice none 0 0, .slice none 0 0]) ?_ 1 _ rfl; (with_reducible repeat (first | refine blk_drewN ?_ _ | refine blk_drew ?_ | refine blk_alloc ?_ _)); refine blk_put (cs := #[.int .i64 0, .slice none 0 0, .slice none 0 0, .slice none 0 0]) ?_ 0 _ rfl; (with_reducible repeat (first | refine blk_drewN ?_ _ | refine blk_drew ?_ | refine blk_alloc ?_ _)); exact BK2.out
      ·refine Kept.setCell (S := fun k => k = g2) ?_ (.inl rfl) _
       refine Kept.setCell (S := fun k => k = g2) ?_ (.inl rfl) _
       refine Kept.setCell (S := fun k => k = g2) ?_ (.inl rfl) _
       refine Kept.setCell (S := fun k => k = g2) ?_ (.inl rfl) _
       exact Kept.refl w5 _
      ·have hg5 : w.heap.size ≤ g2 := by omega
       refine below_set ?_ hg5
       refine below_set ?_ hg5
       refine below_set ?_ hg5
       refine below_set ?_ hg5
       exact HB5.out
     case round =>
      rename World => wl
      have hg2a : ws.heap.size ≤ g2 := Nat.le_of_eq HGE.out.symm
      have hg2b : g2 ≤ ws.heap.size := Nat.le_of_eq HGE.out
      obtain ⟨q, Ap, cp, hq, hgq, rfl, HG2, HS, HOB, HKP, HBL⟩ := hrel
      have hl5' := HKP.out.1
      by_cases hlq : q < K.length
      ·have hlqz : (q : Int) < (K.length : Int) := by omega
       have hrow5 := Kd.own_of_R HM2.out
       have hrow : wl.ownsRow wa.heap.size 3 1 (.slice A2 K.length c2) K.length (K.map (Value.int .i64)) := own_move hrow5 (fun k hk => HKP.out.2 k ((hrow5.lt k hk).2) (by have h1 := Kd.R_bound HM2.out; have h2 := h1.1 k hk; have h3 := h2.1.2.2.1; omega))
       clear hrow5
       rcases hrow.2 with ⟨_, h0⟩ | ⟨gk, cap, cur, hv, hgk1, hgk2, _⟩
       ·omega
       obtain ⟨rfl, rfl⟩ : A2 = some ⟨gk, 0, none⟩ ∧ c2 = cap := by injection hv with h1 h2 h3; exact ⟨h1, h3⟩
       have hcq : wl.cell? ⟨gk, q, none⟩ = some (.int .i64 K[q]) := by have h1 := hrow.cells (g := gk) rfl q (.int .i64 K[q]) (by simp [List.getElem?_eq_getElem hlq]); rwa [show (⟨gk, 0, none⟩ : Addr).add q = ⟨gk, q, none⟩ from by unfold Addr.add; split <;> simp_all] at h1
       clear hrow hv hgk2
       have hkb := HKB.out K[q] (List.getElem_mem hlq)
       obtain ⟨u, zs, hrun, hat, hoi, hent⟩ := HE1.out wl K[q] ((HKP.out.2 _ zq3 zq3).trans (HG5.out _ hsz1)) zq3
       have hz : zs = post b ls ls.length K[q] := dat_inj hoi ((HF.out.at_ K[q]).symm.trans hat)
       have hlt : ∀ k, u.ownBlock = some k → w1.heap.size + 1 ≤ k ∧ k < wo.heap.size := fun k hk => hoi.1.lt k hk
       have hru : Kd.R (Kd.int .i64) 3 wl w.heap.size (fun k => some k = u.ownBlock) u zs := Kd.R_lower (Kd.R_of_own (own_move hoi.1 (fun k hk => (HKP.out.2 k (by have := hlt k hk; omega) (by have := hlt k hk; omega)).trans (HG5.out k (hlt k hk).2))) (fun k hk => hk.symm)) zq3
       have htk : (K.take (q + 1)).map (post b ls ls.length) = (K.take q).map (post b ls ls.length) ++ [zs] := by rw [List.take_succ_eq_append_getElem hlq, List.map_append, hz]; rfl
       have hEK : Ent (.int .i64 (K.getD q 0)) u := by have e1 : K.getD q 0 = K[q] := (by simp [List.getD, List.getElem?_eq_getElem hlq]); rw [e1]; exact hent
       have hokp : ∀ k, some k = u.ownBlock → okP Ent K w1.heap.size wo.heap.size w5.heap.size (q + 1) k ∧ some k ≠ (Value.slice Ap q cp).ownBlock := fun k hk => ⟨.inl ⟨by have := hlt k hk.symm; omega, (hlt k hk.symm).2, q, zq3, u, hEK, hk⟩, fun e => by have h1 := HOB.out k e.symm; have h2 := hlt k hk.symm; omega⟩
       have HSQ := zA (Kd.S_mono (ok' := fun k => okP Ent K w1.heap.size wo.heap.size w5.heap.size (q + 1) k ∧ ¬ some k = u.ownBlock) HS.out (fun k hk => by
        rcases hk with ⟨h1, h2, j, hj, v, hv, hkv⟩ | h1
        ·refine ⟨.inl ⟨h1, h2, j, zq3, v, hv, hkv⟩, fun e => HE2.out _ _ _ _ hv hEK (fun e2 => ?_) k hkv e⟩
         have e3 : K.getD j 0 = K.getD q 0 := by injection e2
         have e4 := asc_get HKA.out (show j < q by omega) hlq
         rw [show K.getD j 0 = K[j]'zq3 from by simp [List.getD, List.getElem?_eq_getElem (show j < K.length by omega)], show K.getD q 0 = K[q] from by simp [List.getD, List.getElem?_eq_getElem hlq]] at e3
         omega
        ·exact ⟨.inr h1, fun e => by have := hlt k e.symm; omega⟩))
       have HOKP := zA hokp
       have HRU := zA hru
       have HTK := zA htk
       have HLT := zA hlt
       have hzl : zs.length ≤ 1048576 := by rw [hz]; have := post_len b ls ls.length K[q]; omega
       clear hoi hat hent hEK hokp hru htk hlt hz
       generalize ht : K[q] = t at hcq hkb hrun
       clear ht
       have hdg20 : wl.cell? ⟨g2, 0, none⟩ = some (.int .i64 b) := (blk_cell HG2.out 0).trans rfl; have heg20 := blk_frozen HG2.out 0; have hdg21 : wl.cell? ⟨g2, 1, none⟩ = some (.slice A1 ls.length c1) := (blk_cell HG2.out 1).trans rfl; have heg21 := blk_frozen HG2.out 1; have hdg22 : wl.cell? ⟨g2, 2, none⟩ = some (.slice (some ⟨gk, 0, none⟩) K.length c2) := (blk_cell HG2.out 2).trans rfl; have heg22 := blk_frozen HG2.out 2; have hdg23 : wl.cell? ⟨g2, 3, none⟩ = some (.slice Ap q cp) := (blk_cell HG2.out 3).trans rfl; have heg23 := blk_frozen HG2.out 3
       obtain ⟨Au, cu, rfl⟩ := Kd.R_slice HRU.out
       go_wp2_with (first | (at_lookup; refine wpList_lookup_run _ rfl _ _ 104 rfl rfl rfl hrun ?_) | (at_builtin; refine Kd.S_append HelpII.kI (w0 := w) w.heap.size rfl (.tmp 92) (.tmp 96) 42 22 (.slice none 0 0) 24 rfl Try.underlying42 infoII rfl zq13 zq3 (.slice Ap q cp) ((K.take q).map (post b ls ls.length)) zs [.slice Au zs.length cu] (okP Ent K w1.heap.size wo.heap.size w5.heap.size (q + 1)) (fun k_ => some k_ = (.slice Au zs.length cu : Value).ownBlock) rfl rfl ?aP HOKP.out (fun k hk => .inr zq3) HSQ.out HBL.out HBL.out.size ?aL ?_; (case aP => exact Kd.M_row HRU.out); (case aL => (rw [List.length_map, List.length_take]; omega)); intro v6 w6 hO6 hB6 hg6 hat6; obtain ⟨A6, c6, rfl⟩ := Kd.S_slice hO6; rw [show ((K.take q).map (post b ls ls.length) ++ [zs]).length = q + 1 from by simp; omega] at hO6 hat6; have hk6 := blk_grown HG2.out hg6 (fun e => by have h1 := HOB.out g2 e.symm; omega); have hpg20 : w6.cell? ⟨g2, 0, none⟩ = some (.int .i64 b) := (blk_cell hk6 0).trans rfl; have hqg20 := blk_frozen hk6 0; have hpg21 : w6.cell? ⟨g2, 1, none⟩ = some (.slice A1 ls.length c1) := (blk_cell hk6 1).trans rfl; have hqg21 := blk_frozen hk6 1; have hpg22 : w6.cell? ⟨g2, 2, none⟩ = some (.slice (some ⟨gk, 0, none⟩) K.length c2) := (blk_cell hk6 2).trans rfl; have hqg22 := blk_frozen hk6 2; have hpg23 : w6.cell? ⟨g2, 3, none⟩ = some (.slice Ap q cp) := (blk_cell hk6 3).trans rfl; have hqg23 := blk_frozen hk6 3))
       go_roundg (K.length - (q + 1))
       case measure => omega
       case rel =>
        have hg5 : w.heap.size ≤ g2 := by omega
        refine ⟨q + 1, A6, c6, zq3, zq3, by go_num, ⟨?_⟩, ⟨?_⟩, ⟨?_⟩, ⟨?_⟩, ⟨?_⟩⟩
        ·(with_reducible repeat (first | refine blk_drewN ?_ _ | refine blk_drew ?_ | refine blk_alloc ?_ _)); refine blk_put (cs := #[.int .i64 b, .slice A1 ls.length c1, .slice (some ⟨gk, 0, none⟩) K.length c2, .slice Ap q cp]) ?_ 3 _ rfl; exact hk6
        ·rw [HTK.out]
         exact Kd.S_step hO6 (fun k hk _ => Below.heap_setCell w6 ⟨g2, 3, none⟩ _ k (fun e => by have e' : k = g2 := e; rcases hk with ⟨h1, h2, _⟩ | h1 <;> omega))
        ·intro k hk
         rcases hat6 with h | ⟨bb, h, hle⟩
         ·exact HOB.out k (h ▸ hk)
         ·rw [h] at hk; have e1 : bb = k := (by injection hk); omega
        ·exact Kept.setCell (S := fun k => k = g2) (Kept.of_grown hg6 HKP.out (fun k hk => .inr (HOB.out k hk))) (.inl rfl) _
        ·exact below_set hB6 hg5
      ·have hlqz : ¬ (q : Int) < (K.length : Int) := by omega
       obtain rfl : q = K.length := by omega
       have hS3 := HS.out
       rw [List.take_length] at hS3
       have HS3 := zA hS3
       clear hS3 HS
       have hk1 := (HKP.out.2 g1 zq3 zq3).trans HK1.out
       have HK1L := zA hk1
       clear hk1
       have hn12 : g1 ≠ g2 := by omega
       have hn21 : g2 ≠ g1 := by omega
       have hdg20 : wl.cell? ⟨g2, 0, none⟩ = some (.int .i64 b) := (blk_cell HG2.out 0).trans rfl; have heg20 := blk_frozen HG2.out 0; have hdg21 : wl.cell? ⟨g2, 1, none⟩ = some (.slice A1 ls.length c1) := (blk_cell HG2.out 1).trans rfl; have heg21 := blk_frozen HG2.out 1; have hdg22 : wl.cell? ⟨g2, 2, none⟩ = some (.slice A2 K.length c2) := (blk_cell HG2.out 2).trans rfl; have heg22 := blk_frozen HG2.out 2; have hdg23 : wl.cell? ⟨g2, 3, none⟩ = some (.slice Ap K.length cp) := (blk_cell HG2.out 3).trans rfl; have heg23 := blk_frozen HG2.out 3
       have hdg10 : wl.cell? ⟨g1, 0, none⟩ = some (.int .i64 0) := (blk_cell HK1L.out 0).trans rfl; have heg10 := blk_frozen HK1L.out 0; have hdg11 : wl.cell? ⟨g1, 1, none⟩ = some (.slice none 0 0) := (blk_cell HK1L.out 1).trans rfl; have heg11 := blk_frozen HK1L.out 1; have hdg12 : wl.cell? ⟨g1, 2, none⟩ = some (.slice none 0 0) := (blk_cell HK1L.out 2).trans rfl; have heg12 := blk_frozen HK1L.out 2; have hdg13 : wl.cell? ⟨g1, 3, none⟩ = some (.slice none 0 0) := (blk_cell HK1L.out 3).trans rfl; have heg13 := blk_frozen HK1L.out 3
       go_wp2
       refine bodyPost_ret (results_ct rfl _ _ g1 50 #[.int .i64 b, .slice A1 ls.length c1, .slice A2 K.length c2, .slice Ap K.length cp] (0, 0) _ rfl (by (with_reducible repeat (first | refine blk_drewN ?_ _ | refine blk_drew ?_ | refine blk_alloc ?_ _)); refine blk_put (cs := #[.int .i64 b, .slice A1 ls.length c1, .slice A2 K.length c2, .slice none 0 0]) ?_ 3 _ rfl; (with_reducible repeat (first | refine blk_drewN ?_ _ | refine blk_drew ?_ | refine blk_alloc ?_ _)); refine blk_put (cs := #[.int .i64 b, .slice A1 ls.length c1, .slice none 0 0, .slice none 0 0]) ?_ 2 _ rfl; (with_reducible repeat (first | refine blk_drewN ?_ _ | refine blk_drew ?_ | refine blk_alloc ?_ _)); refine blk_put (cs := #[.int .i64 b, .slice none 0 0, .slice none 0 0, .slice none 0 0]) ?_ 1 _ rfl; (with_reducible repeat (first | refine blk_drewN ?_ _ | refine blk_drew ?_ | refine blk_alloc ?_ _)); refine blk_put (cs := #[.int .i64 0, .slice none 0 0, .slice none 0 0, .slice none 0 0]) ?_ 0 _ rfl; (with_reducible repeat (first | refine blk_drewN ?_ _ | refine blk_drew ?_ | refine blk_alloc ?_ _)); exact HK1L.out) Try.underlying50 rfl zq12) rfl ?_
       rw [HBG.out]
       refine ⟨_, rfl, ?_, below_set (below_set (below_set (below_set HBL.out zq3) zq3) zq3) zq3⟩
       show tSeg.M _ _ _ (seg b ls) _
       rw [HSEG.out]
       have m1 : HelpBB.tBB.M wl w.heap.size (fun k => wo.heap.size ≤ k ∧ k < wa.heap.size) ls (.slice A1 ls.length c1) := Kd.S_mono (Kd.S_lower (Kd.S_step HM1.out (fun k hk _ => HKP.out.2 k (by have := hk.2.2.1; omega) (by have := hk.2.2.1; omega))) zq3) (fun k hk => ⟨hk.2.1, hk.2.2.1⟩)
       have m2 : HelpI.tI.M wl w.heap.size (fun k => wa.heap.size ≤ k ∧ k < ws.heap.size) K (.slice A2 K.length c2) := Kd.R_mono (Kd.R_lower (Kd.R_step HM2.out (fun k hk _ => HKP.out.2 k (by have := hk.2.2.1; omega) (by have := hk.2.2.1; omega))) zq3) (fun k hk => ⟨hk.2.1, hk.2.2.1⟩)
       have m3 : HelpII.tII.M wl w.heap.size (okP Ent K w1.heap.size wo.heap.size w5.heap.size K.length) (K.map (post b ls ls.length)) (.slice Ap K.length cp) := HS3.out
       refine ⟨_, rfl, tys.M_mono (fun _ _ => trivial) (Tys.cons_apart (a := Ty.sc (Value.int .i64)) (ok1 := fun _ => False) rfl (Tys.cons_apart (Ty.M_set (T := HelpBB.tBB) (Ty.M_set (T := HelpBB.tBB) (Ty.M_set (T := HelpBB.tBB) (Ty.M_set (T := HelpBB.tBB) m1 (fun k hk e => by have h1 := hk.1; omega) _) (fun k hk e => by have h1 := hk.1; omega) _) (fun k hk e => by have h1 := hk.1; omega) _) (fun k hk e => by have h1 := hk.1; omega) _) (Tys.cons_apart (Ty.M_set (T := HelpI.tI) (Ty.M_set (T := HelpI.tI) (Ty.M_set (T := HelpI.tI) (Ty.M_set (T := HelpI.tI) m2 (fun k hk e => by have h1 := hk.1; omega) _) (fun k hk e => by have h1 := hk.1; omega) _) (fun k hk e => by have h1 := hk.1; omega) _) (fun k hk e => by have h1 := hk.1; omega) _) (Tys.M_one (Ty.M_set (T := HelpII.tII) (Ty.M_set (T := HelpII.tII) (Ty.M_set (T := HelpII.tII) (Ty.M_set (T := HelpII.tII) m3 (fun k hk e => by rcases hk with ⟨h1, h2, _⟩ | h1 <;> omega) _) (fun k hk e => by rcases hk with ⟨h1, h2, _⟩ | h1 <;> omega) _) (fun k hk e => by rcases hk with ⟨h1, h2, _⟩ | h1 <;> omega) _) (fun k hk e => by rcases hk with ⟨h1, h2, _⟩ | h1 <;> omega) _)) ?d2) ?d1) (fun _ _ h => h))⟩
       case d2 => exact fun k hk hk1 => by have h3 := hk1.1; have h4 := hk1.2; rcases hk with ⟨h1, h2, _⟩ | h1 <;> omega
       case d1 => exact fun k hk hk1 => by have h3 := hk1.1; have h4 := hk1.2; rcases hk with hk | ⟨h1, h2, _⟩ | h1; (have h5 := hk.1; omega); omega; omega
abbrev code (b : Int) (ls : List (List Int)) : Int := (build b ls).2
abbrev ans (b : Int) (ls : List (List Int)) : SegT := (build b ls).1
theorem implC (x0 : Int) (x1 : List (List Int)) (v1 : Value) (w : World) (h1 : HelpBB.tBB.K w x1 v1) (s1 : HelpBB.smallBB x1) (hb : Bytes x1) :
  Calls Try.prog 40 #[.int .i64 x0, v1] w fun e w' => ∃ v', e = .returned (.tuple #[v', .int .i64 (code x0 x1)]) ∧ HelpSeg.tSeg.M w' w.heap.size (fun _ => True) (ans x0 x1) v' ∧ Grew w w' := by
 obtain ⟨A, c, rfl, hc, hr⟩ := h1
 exact build_calls x0 A c x1 w hr hc hb s1
end Go.Proofs.Ytmgmdnmfalepkaa.Build

namespace Go.Proofs.Ytmgmdnmfalepkaa.Sto
open Go.RowKit Go.Proofs.YtmgmdnmfalepkaaW.PrintWords Go.Proofs.YtmgmdnmfalepkaaW.PrintMore Go.Proofs.Ytmgmdnmfalepkaa.Kit Go.Proofs.Ytmgmdnmfalepkaa.PKit Go.Proofs.Ytmgmdnmfalepkaa.Ty Go.Proofs.Ytmgmdnmfalepkaa.PSeg Go.Proofs.Ytmgmdnmfalepkaa.PEnc Go.Proofs.Ytmgmdnmfalepkaa.PDec Go.Proofs.Ytmgmdnmfalepkaa.PSta Go.Proofs.Ytmgmdnmfalepkaa.HelpBB Go.Proofs.Ytmgmdnmfalepkaa.HelpSeg
open Go.Proofs.Ytmgmdnmfalepkaa.Build hiding code ans
set_option linter.unusedVariables false
set_option linter.unusedSimpArgs false
theorem cells4 {w : World} {g : Nat} {t : TypeId} {a0 a1 a2 a3 : Value} (h : w.heap[g]? = some (.cells #[a0, a1, a2, a3] t (0, 0))) : (w.cell? ⟨g, 0, none⟩ = some a0 ∧ w.frozen? ⟨g, 0, none⟩ = false) ∧ (w.cell? ⟨g, 1, none⟩ = some a1 ∧ w.frozen? ⟨g, 1, none⟩ = false) ∧ (w.cell? ⟨g, 2, none⟩ = some a2 ∧ w.frozen? ⟨g, 2, none⟩ = false) ∧ (w.cell? ⟨g, 3, none⟩ = some a3 ∧ w.frozen? ⟨g, 3, none⟩ = false) := ⟨⟨(blk_cell h 0).trans rfl, blk_frozen h 0⟩, ⟨(blk_cell h 1).trans rfl, blk_frozen h 1⟩, ⟨(blk_cell h 2).trans rfl, blk_frozen h 2⟩, ⟨(blk_cell h 3).trans rfl, blk_frozen h 3⟩⟩
def kSeg : Kd SegT := Kd.pair (Kd.int .i64) (Kd.pair (Kd.slice 33 kB) (Kd.pair (Kd.slice 3 (Kd.int .i64)) (Kd.slice 22 HelpII.kI)))
def Good (s : SegT) : Prop := s = seg s.1 s.2.1 ∧ fits s.1 s.2.1 = true ∧ Bytes s.2.1
end Go.Proofs.Ytmgmdnmfalepkaa.Sto
