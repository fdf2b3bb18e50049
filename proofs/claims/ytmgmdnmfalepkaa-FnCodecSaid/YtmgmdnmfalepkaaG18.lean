/- Parts of the proof (see the row's own text): EncB, SegOk, Encode, DecA, DecB. -/
import Derived.Test.YtmgmdnmfalepkaaG00
import Derived.Test.YtmgmdnmfalepkaaG17
import Derived.Test.YtmgmdnmfalepkaaG10
import Derived.Test.YtmgmdnmfalepkaaG6
import Derived.Test.YtmgmdnmfalepkaaG13
import Derived.Deep.QuietTactic
import Derived.BigQuiet
import Derived.Test.YtmgmdnmfalepkaaG12
import Derived.Test.YtmgmdnmfalepkaaG14
import Derived.Deep.RegionLaw
import Derived.Deep.RegionHeld3
namespace Go.Proofs.Ytmgmdnmfalepkaa.EncB
open Go.RowKit Go.Proofs.YtmgmdnmfalepkaaW.PrintWords Go.Proofs.YtmgmdnmfalepkaaW.PrintMore Go.Proofs.Ytmgmdnmfalepkaa.Kit Go.Proofs.Ytmgmdnmfalepkaa.PKit Go.Proofs.Ytmgmdnmfalepkaa.Ty Go.Proofs.Ytmgmdnmfalepkaa.PSeg Go.Proofs.Ytmgmdnmfalepkaa.PEnc Go.Proofs.Ytmgmdnmfalepkaa.Build Go.Proofs.Ytmgmdnmfalepkaa.EncA Go.Proofs.Ytmgmdnmfalepkaa.HelpBB
set_option linter.unusedVariables false
theorem nums1 (a : Nat) : EncA.nums [a] = varint a := by simp [EncA.nums]
theorem nums2 (a b : Nat) : EncA.nums [a, b] = varint a ++ varint b := by simp [EncA.nums]
def lastK (K : List Int) (j : Nat) : Int := if j = 0 then 0 else K.getD (j - 1) 0
def lastP (b : Int) (P : List Int) (i : Nat) : Int := if i = 0 then b else P.getD (i - 1) 0
theorem gap_last (K : List Int) (j : Nat) : gap K j = K.getD j 0 - lastK K j := by
 unfold gap lastK
 by_cases h : j = 0
 ·subst h; rw [if_pos rfl, if_pos rfl]; omega
 ·rw [if_neg h, if_neg h]
theorem del_last (b : Int) (P : List Int) (i : Nat) : del b P i = P.getD i 0 - lastP b P i := by
 unfold del lastP
 by_cases h : i = 0
 ·subst h; rw [if_pos rfl, if_pos rfl]
 ·rw [if_neg h, if_neg h]
theorem Enc.below {w0 w : World} {ge : Nat} {No : Nat → Prop} {o : List Int} (h : Enc w0 w ge No o) : Below w0.heap.size w0 w := h.2.1
theorem one_number (ge : Nat) (x : Int) (a : Nat) (o : List Int) (w0 w : World) (h : Enc w0 w ge (fun _ => False) o) (hx : x = (a : Int)) (ha : a < 4611686018427387904) (ho : o.length ≤ 1099511627776) :
  Calls Try.prog 144 #[.pointer (some ⟨ge, 0, none⟩), .slice (some ⟨w.heap.size, 0, none⟩) 1 1] (w.alloc (.cells #[.int .i64 x] 3)) fun e w' => e = .returned (.tuple #[]) ∧ Enc w0 w' ge (fun _ => False) (o ++ varint a) := by
 subst hx
 obtain ⟨h1, h2⟩ := h.list (.cells #[.int .i64 (a : Int)] 3)
 refine (numbers_calls ge w.heap.size o [a] w0 _ h1 ((heap_alloc_new w _).trans rfl) h2 (by simpa using ha) zq14 ho).mono ?_
 rintro e w' ⟨rfl, h3⟩
 rw [nums1] at h3
 exact ⟨rfl, h3.mono (fun _ h => h.elim)⟩
theorem two_numbers (ge : Nat) (x y : Int) (a b : Nat) (o : List Int) (w0 w : World) (h : Enc w0 w ge (fun _ => False) o) (hx : x = (a : Int)) (hy : y = (b : Int)) (ha : a < 4611686018427387904) (hb : b < 4611686018427387904) (ho : o.length ≤ 1099511627776) :
  Calls Try.prog 144 #[.pointer (some ⟨ge, 0, none⟩), .slice (some ⟨w.heap.size, 0, none⟩) 2 2] (w.alloc (.cells #[.int .i64 x, .int .i64 y] 3)) fun e w' => e = .returned (.tuple #[]) ∧ Enc w0 w' ge (fun _ => False) (o ++ (varint a ++ varint b)) := by
 subst hx hy
 obtain ⟨h1, h2⟩ := h.list (.cells #[.int .i64 (a : Int), .int .i64 (b : Int)] 3)
 refine (numbers_calls ge w.heap.size o [a, b] w0 _ h1 ((heap_alloc_new w _).trans rfl) h2 (by simpa using ⟨ha, hb⟩) zq14 ho).mono ?_
 rintro e w' ⟨rfl, h3⟩
 rw [nums2] at h3
 exact ⟨rfl, h3.mono (fun _ h => h.elim)⟩
theorem four_row (W : World) (g : Nat) (x1 x2 x3 x4 : Int) (h : W.heap[g]? = some (.cells #[.int .u8 x1, .int .u8 x2, .int .u8 x3, .int .u8 x4] 5 (0, 0))) : Kd.C (Kd.int .u8) W (some ⟨g, 0, none⟩) 4 [x1, x2, x3, x4] := by
 obtain ⟨A, c, e, _, hC⟩ := Kd.R_reads (Kd.R_of_own (xs := [x1, x2, x3, x4]) (h1 := fun _ => rfl) (enc := Value.int .u8) (ok := fun _ => True) (base := 0) (w := W) (e := 5) (v := .slice (some ⟨g, 0, none⟩) 4 4) ⟨rfl, .inr ⟨g, 4, _, rfl, Nat.zero_le _, h, zq14, by simp [maxLen], rfl, rfl⟩⟩ (fun _ _ => trivial))
 obtain rfl : some ⟨g, 0, none⟩ = A := by injection e
 exact hC
set_option maxRecDepth 100000 in
set_option maxHeartbeats 4000000 in
theorem encoded_calls (bn : Nat) (ls : List (List Int)) (K : List Int) (Ps : List (List Int)) (A1 A2 A3 : Option Addr) (c1 c2 c3 : Nat) (w : World) (h1 : HelpBB.tBB.K w ls (.slice A1 ls.length c1)) (h2 : HelpI.tI.K w K (.slice A2 K.length c2)) (h3 : HelpII.tII.K w Ps (.slice A3 Ps.length c3))
  (hok : EncOk ((bn : Int), ls, K, Ps)) (hby : Bytes ls) :
  Calls Try.prog 105 #[.agg #[.int .i64 (bn : Int), .slice A1 ls.length c1, .slice A2 K.length c2, .slice A3 Ps.length c3]] w fun e w' => ∃ v', e = .returned v' ∧ HelpB.tB.M w' w.heap.size (fun _ => True) (code ((bn : Int), ls, K, Ps)) v' ∧ Grew w w' := by
 have huI := Try.underlying50
 have huE := Try.underlying154
 have hb1 : (bn : Int) ≤ 1000 := hok.b1
 have hl1 : ls.length ≤ 1000 := hok.l1
 have ht1 : totalB ls ≤ 20000 := hok.t1
 have hk1 : K.length ≤ 20000 := hok.k1
 have HPK := zA (show Ps.length = K.length from hok.pk)
 obtain ⟨B1, d1, e1, hc1, hr1⟩ := h1
 obtain ⟨rfl, rfl⟩ : A1 = B1 ∧ c1 = d1 := by injection e1 with q1 q2 q3; exact ⟨q1, q3⟩
 have R1 := zA hr1
 clear hc1 hr1 e1
 obtain ⟨B2, d2, e2, hc2, hr2⟩ := h2
 obtain ⟨rfl, rfl⟩ : A2 = B2 ∧ c2 = d2 := by injection e2 with q1 q2 q3; exact ⟨q1, q3⟩
 have R2 := zA hr2
 clear hc2 hr2 e2
 obtain ⟨B3, d3, e3, hc3, hr3⟩ := h3
 obtain ⟨rfl, rfl⟩ : A3 = B3 ∧ c3 = d3 := by injection e3 with q1 q2 q3; exact ⟨q1, q3⟩
 have R3 := zA hr3
 clear hc3 hr3 e3
 have HOK := zA hok
 have HBY := zA hby
 clear hok hby
 have HHL := zA (head_len (b := (bn : Int)) (ls := ls) hb1 hl1)
 go_enter Try.func105, Try.ntmps105
 go_wp2_with (first | ((with_reducible refine gate_dst (N := 1) rfl ?_); refine box_event ?hg (N := 1) ?hd (cs := #[.int .i64 (bn : Int), .slice A1 ls.length c1, .slice A2 K.length c2, .slice A3 Ps.length c3]) (t := 50) ?hr ?_; (case hd => rfl); (case hg => rfl); (case hr => first | (go_simp; done) | (go_simp; rfl)); intro gs hg_ w1 hbx hbb; have BKs := zA hbx; have HB := zA hbb; have GS := zA (show w.heap.size ≤ gs from Nat.le_of_eq hg_.symm); clear hg_; have hc0 : w1.cell? ⟨gs, 0, none⟩ = some (.int .i64 (bn : Int)) := (blk_cell hbx 0).trans rfl; have fhc0 := blk_frozen hbx 0; have hc1 : w1.cell? ⟨gs, 1, none⟩ = some (.slice A1 ls.length c1) := (blk_cell hbx 1).trans rfl; have fhc1 := blk_frozen hbx 1; have hc2 : w1.cell? ⟨gs, 2, none⟩ = some (.slice A2 K.length c2) := (blk_cell hbx 2).trans rfl; have fhc2 := blk_frozen hbx 2; have hc3 : w1.cell? ⟨gs, 3, none⟩ = some (.slice A3 Ps.length c3) := (blk_cell hbx 3).trans rfl; have fhc3 := blk_frozen hbx 3; clear hbx hbb) | ((with_reducible refine gate_dst (N := 15) rfl ?_); refine box_event ?hg (N := 15) ?hd (cs := #[.slice (some ⟨w1.heap.size, 0, none⟩) 2 2]) (t := 154) ?hr ?_; (case hd => rfl); (case hg => rfl); (case hr => first | (go_simp; done) | (go_simp; rfl)); intro ge hg_ w3 hbx hbb; have BKe := zA hbx; have HB3 := zA hbb; have GE := zA (show w1.heap.size + 1 ≤ ge from by rw [hg_]; simp); clear hg_; have hz0 := blk_below (w := w1.alloc (.cells #[.int .u8 84, .int .u8 71] 5)) (g := gs) (blk_alloc BKs.out _) hbb; have hd0 : w3.cell? ⟨gs, 0, none⟩ = some (.int .i64 (bn : Int)) := (blk_cell hz0 0).trans rfl; have fhd0 := blk_frozen hz0 0; have hd1 : w3.cell? ⟨gs, 1, none⟩ = some (.slice A1 ls.length c1) := (blk_cell hz0 1).trans rfl; have fhd1 := blk_frozen hz0 1; have hd2 : w3.cell? ⟨gs, 2, none⟩ = some (.slice A2 K.length c2) := (blk_cell hz0 2).trans rfl; have fhd2 := blk_frozen hz0 2; have hd3 : w3.cell? ⟨gs, 3, none⟩ = some (.slice A3 Ps.length c3) := (blk_cell hz0 3).trans rfl; have fhd3 := blk_frozen hz0 3; clear hbx hbb))
 have HG := zA (show w.heap.size ≤ w1.heap.size from HB.out.size)
 have hrow : w3.heap[w1.heap.size]? = some (.cells #[.int .u8 84, .int .u8 71] 5 (0, 0)) := blk_below (heap_alloc_new w1 _) HB3.out
 have hE0 : Enc w1 w3 ge (fun _ => False) [84, 71] := by
  have hge := GE.out
  exact ⟨zq3, grew_trans (below_alloc (Below.refl _ _) _) HB3.out, some ⟨w1.heap.size, 0, none⟩, 2, BKe.out, Kd.R_of_own (xs := [(84 : Int), 71]) ⟨rfl, .inr ⟨w1.heap.size, 2, #[.int .u8 84, .int .u8 71], rfl, Nat.le_refl _, hrow, zq14, by simp [maxLen], rfl, rfl⟩⟩ (fun k hk => ⟨fun e => by have e1 : w1.heap.size = k := (by simpa [Value.ownBlock] using hk); omega, id⟩)⟩
 clear hrow
 refine (two_numbers ge _ _ bn ls.length [84, 71] w1 w3 hE0 rfl rfl zq3 zq3 zq14).mono ?_
 rintro e w4 ⟨rfl, hE4⟩
 have eh : [(84 : Int), 71] ++ (varint bn ++ varint ls.length) = head (bn : Int) ls := by simp [head]
 rw [eh] at hE4
 clear eh hE0
 have hbs := blk_below (g := gs) BKs.out (Enc.below hE4)
 have h40 : w4.cell? ⟨gs, 0, none⟩ = some (.int .i64 (bn : Int)) := (blk_cell hbs 0).trans rfl; have fh40 := blk_frozen hbs 0; have h41 : w4.cell? ⟨gs, 1, none⟩ = some (.slice A1 ls.length c1) := (blk_cell hbs 1).trans rfl; have fh41 := blk_frozen hbs 1; have h42 : w4.cell? ⟨gs, 2, none⟩ = some (.slice A2 K.length c2) := (blk_cell hbs 2).trans rfl; have fh42 := blk_frozen hbs 2; have h43 : w4.cell? ⟨gs, 3, none⟩ = some (.slice A3 Ps.length c3) := (blk_cell hbs 3).trans rfl; have fh43 := blk_frozen hbs 3
 clear hbs
 go_wp2
 go_loopg [27] ls.length (fun gg s27 wr => ∃ i : Nat, i ≤ ls.length ∧ ls.length - i ≤ gg ∧ s27 = .int .i64 i ∧ Aside0 (Enc w1 wr ge (fun _ => False) (head (bn : Int) ls ++ flat (line ls) i)))
 case atStart => exact ⟨0, zq3, zq3, rfl, ⟨by have e : flat (line ls) 0 = [] := rfl; rw [e, List.append_nil]; exact hE4⟩⟩
 case round =>
  clear hE4
  obtain ⟨i, hi, hg, rfl, HE⟩ := hrel
  have HW := zA (grew_trans HB.out (Enc.below HE.out))
  by_cases hlt : i < ls.length
  ·have hltz : (i : Int) < (ls.length : Int) := by omega
   obtain ⟨ad, u, rfl, hcell0, hK⟩ := get_one (d := kB) rfl R1.out [] i hlt
   obtain ⟨A', c', e', hc', hr'⟩ := hK
   obtain rfl : u = .slice A' (ls.getD i []).length c' := by injection e'
   have hcell : wr.cell? (ad.add i) = some (.slice A' (ls.getD i []).length c') := (HW.out.cell (World.block_lt_of_cell? w _ hcell0)).trans hcell0
   have HL := zA (Kd.C_below hr' HB.out)
   have hgl := getD_len ls i
   have hll := lines_len HOK.out i (by show i ≤ ls.length; omega)
   have hll' : (head (bn : Int) ls ++ flat (line ls) i).length ≤ 1099511627776 := by have h1 := HHL.out; have h2 : (flat (line ls) i).length ≤ 20010000 := hll; rw [List.length_append]; omega
   have hnext : head (bn : Int) ls ++ flat (line ls) (i + 1) = head (bn : Int) ls ++ flat (line ls) i ++ (varint (ls.getD i []).length ++ ls.getD i []) := by rw [flat_succ, ← List.append_assoc]; rfl
   have HNX := zA hnext
   clear hr' e' hcell0 hll hnext
   generalize hx : ls.getD i [] = l at hcell HL hgl HNX hc'
   clear hx
   have hby := bytes_calls ge _ A' c' l w1 wr HE.out HL.out zq3 hll'
   go_wp2_with (go_at_call 145; refine hby.mono ?_; rintro e w5 ⟨rfl, hE5⟩)
   go_roundg (ls.length - (i + 1))
   case measure => omega
   case rel => exact ⟨i + 1, zq3, zq3, by go_num, ⟨by rw [HNX.out]; exact hE5⟩⟩
  ·have hltz : ¬ (i : Int) < (ls.length : Int) := by omega
   obtain rfl : i = ls.length := by omega
   rename World => w6
   have hll := lines_len HOK.out ls.length (Nat.le_refl _)
   have HLL := zA (show (head (bn : Int) ls ++ flat (line ls) ls.length).length ≤ 20010020 from by have h1 := HHL.out; have h2 : (flat (line ls) ls.length).length ≤ 20010000 := hll; rw [List.length_append]; omega)
   clear hll
   have hbs := blk_below (g := gs) BKs.out (Enc.below HE.out)
   have h60 : w6.cell? ⟨gs, 0, none⟩ = some (.int .i64 (bn : Int)) := (blk_cell hbs 0).trans rfl; have fh60 := blk_frozen hbs 0; have h61 : w6.cell? ⟨gs, 1, none⟩ = some (.slice A1 ls.length c1) := (blk_cell hbs 1).trans rfl; have fh61 := blk_frozen hbs 1; have h62 : w6.cell? ⟨gs, 2, none⟩ = some (.slice A2 K.length c2) := (blk_cell hbs 2).trans rfl; have fh62 := blk_frozen hbs 2; have h63 : w6.cell? ⟨gs, 3, none⟩ = some (.slice A3 Ps.length c3) := (blk_cell hbs 3).trans rfl; have fh63 := blk_frozen hbs 3
   clear hbs
   go_wp2_with (go_at_call 144; refine (one_number ge _ K.length _ w1 w6 HE.out rfl zq3 (by have := HLL.out; omega)).mono ?_; rintro e w7 ⟨rfl, hE7⟩; have hbs := blk_below (g := gs) BKs.out (Enc.below hE7); have h70 : w7.cell? ⟨gs, 0, none⟩ = some (.int .i64 (bn : Int)) := (blk_cell hbs 0).trans rfl; have fh70 := blk_frozen hbs 0; have h71 : w7.cell? ⟨gs, 1, none⟩ = some (.slice A1 ls.length c1) := (blk_cell hbs 1).trans rfl; have fh71 := blk_frozen hbs 1; have h72 : w7.cell? ⟨gs, 2, none⟩ = some (.slice A2 K.length c2) := (blk_cell hbs 2).trans rfl; have fh72 := blk_frozen hbs 2; have h73 : w7.cell? ⟨gs, 3, none⟩ = some (.slice A3 Ps.length c3) := (blk_cell hbs 3).trans rfl; have fh73 := blk_frozen hbs 3; clear hbs)
   have hOl : (head (bn : Int) ls ++ flat (line ls) ls.length ++ varint K.length).length ≤ 20010040 := by have h1 := HLL.out; have h2 := varint_len10 (n := K.length) zq3; rw [List.length_append]; omega
   have HCODE := zA (show body ((bn : Int), ls, K, Ps) = head (bn : Int) ls ++ flat (line ls) ls.length ++ varint K.length ++ flat (grp (bn : Int) K Ps) K.length from rfl)
   generalize hO : head (bn : Int) ls ++ flat (line ls) ls.length ++ varint K.length = O at hE7 hOl HCODE
   clear hO
   go_loopg [6, 44] K.length (fun gg s6 s44 wr => ∃ j : Nat, j ≤ K.length ∧ K.length - j ≤ gg ∧ s6 = .int .i64 (lastK K j) ∧ s44 = .int .i64 j ∧ Aside0 (Enc w1 wr ge (fun _ => False) (O ++ flat (grp (bn : Int) K Ps) j)))
   case atStart => exact ⟨0, zq3, zq3, rfl, rfl, ⟨by have e : flat (grp (bn : Int) K Ps) 0 = [] := rfl; rw [e, List.append_nil]; exact hE7⟩⟩
   case round =>
    clear hE7 HE HW
    rename World => w8
    obtain ⟨j, hj, hg, rfl, rfl, HE⟩ := hrel
    have HW := zA (grew_trans HB.out (Enc.below HE.out))
    have hgr := grps_len HOK.out j (by show j ≤ K.length; omega)
    have hGl : (O ++ flat (grp (bn : Int) K Ps) j).length ≤ 300000000 := by have h2 : (flat (grp (bn : Int) K Ps) j).length ≤ 180360000 := hgr; rw [List.length_append]; omega
    clear hgr
    by_cases hlt : j < K.length
    ·have hltz : (j : Int) < (K.length : Int) := by omega
     have hltp : j < Ps.length := by have := HPK.out; omega
     have hltpz : (j : Int) < (Ps.length : Int) := by omega
     obtain ⟨ad2, u2, rfl, hc20, hK2⟩ := get_one (d := Kd.int .i64) rfl R2.out 0 j hlt
     obtain rfl : u2 = .int .i64 (K.getD j 0) := by have h : [u2] = [Value.int .i64 (K.getD j 0)] := hK2; injection h
     have hc2 : w8.cell? (ad2.add j) = some (.int .i64 (K.getD j 0)) := (HW.out.cell (World.block_lt_of_cell? w _ hc20)).trans hc20
     obtain ⟨ad3, u3, rfl, hc30, hK3⟩ := get_one (d := HelpII.kI) rfl R3.out [] j hltp
     obtain ⟨A', c', e', hc', hr'⟩ := hK3
     obtain rfl : u3 = .slice A' (Ps.getD j []).length c' := by injection e'
     have hc3 : w8.cell? (ad3.add j) = some (.slice A' (Ps.getD j []).length c') := (HW.out.cell (World.block_lt_of_cell? w _ hc30)).trans hc30
     have HC3 := zA hc30
     have HLP := zA hr'
     have hp1 : (Ps.getD j []).length ≤ 1000 := HOK.out.p1 j
     obtain ⟨g0, g1⟩ := HOK.out.g1 j hlt
     have g0 : 0 ≤ gap K j := g0
     have g1 : gap K j ≤ 16777216 := g1
     have HD := zA (show ∀ i, i < (Ps.getD j []).length → 0 ≤ del (bn : Int) (Ps.getD j []) i ∧ del (bn : Int) (Ps.getD j []) i ≤ 1000 from fun i hi => HOK.out.d1 j i hlt hi)
     have HGRP := zA (show O ++ flat (grp (bn : Int) K Ps) (j + 1) = O ++ flat (grp (bn : Int) K Ps) j ++ (varint (gap K j).toNat ++ varint (Ps.getD j []).length) ++ dels (bn : Int) (Ps.getD j []) (Ps.getD j []).length from by rw [flat_succ, ← List.append_assoc, ← List.append_assoc]; show _ ++ (varint _ ++ varint _ ++ dels _ _ _) = _; simp only [List.append_assoc])
     have HLK := zA (show lastK K (j + 1) = K.getD j 0 from by simp [lastK])
     have hgl := gap_last K j
     clear hr' e' hc' hc20 hc30
     obtain ⟨g, hgn⟩ : ∃ g : Nat, gap K j = (g : Int) := ⟨(gap K j).toNat, zq3⟩
     rw [hgn] at g0 g1 hgl HGRP
     rw [Int.toNat_natCast] at HGRP
     clear hgn
     generalize hO2 : O ++ flat (grp (bn : Int) K Ps) j = O2 at HE hGl HGRP
     clear hO2
     generalize hkj : K.getD j 0 = kj at hc2 hgl HLK
     clear hkj
     have hgl2 : 0 ≤ kj - lastK K j ∧ kj - lastK K j ≤ 16777216 := by omega
     generalize hlk : lastK K j = lk at hgl hgl2
     clear hlk
     generalize hP : Ps.getD j [] = P at hc3 HC3 HLP hp1 HD HGRP
     clear hP
     have h2n := two_numbers ge (kj - lk) (P.length : Int) g P.length O2 w1 w8 HE.out zq3 rfl zq3 zq3 zq3
     have hbs := blk_below (g := gs) BKs.out (Enc.below HE.out)
     have h80 : w8.cell? ⟨gs, 0, none⟩ = some (.int .i64 (bn : Int)) := (blk_cell hbs 0).trans rfl; have fh80 := blk_frozen hbs 0; have h81 : w8.cell? ⟨gs, 1, none⟩ = some (.slice A1 ls.length c1) := (blk_cell hbs 1).trans rfl; have fh81 := blk_frozen hbs 1; have h82 : w8.cell? ⟨gs, 2, none⟩ = some (.slice (some ad2) K.length c2) := (blk_cell hbs 2).trans rfl; have fh82 := blk_frozen hbs 2; have h83 : w8.cell? ⟨gs, 3, none⟩ = some (.slice (some ad3) Ps.length c3) := (blk_cell hbs 3).trans rfl; have fh83 := blk_frozen hbs 3
     clear hbs
     go_wp2_with (go_at_call 144; refine h2n.mono ?_; rintro e w9 ⟨rfl, hE9⟩; have hbs := blk_below (g := gs) BKs.out (Enc.below hE9); have h90 : w9.cell? ⟨gs, 0, none⟩ = some (.int .i64 (bn : Int)) := (blk_cell hbs 0).trans rfl; have fh90 := blk_frozen hbs 0; have h91 : w9.cell? ⟨gs, 1, none⟩ = some (.slice A1 ls.length c1) := (blk_cell hbs 1).trans rfl; have fh91 := blk_frozen hbs 1; have h92 : w9.cell? ⟨gs, 2, none⟩ = some (.slice (some ad2) K.length c2) := (blk_cell hbs 2).trans rfl; have fh92 := blk_frozen hbs 2; have h93 : w9.cell? ⟨gs, 3, none⟩ = some (.slice (some ad3) Ps.length c3) := (blk_cell hbs 3).trans rfl; have fh93 := blk_frozen hbs 3; clear hbs; have hc9 : w9.cell? (ad3.add j) = some (.slice A' P.length c') := ((grew_trans HB.out (Enc.below hE9)).cell (World.block_lt_of_cell? w _ HC3.out)).trans HC3.out)
     have hl9 : (O2 ++ (varint g ++ varint P.length)).length ≤ 300000020 := by have h1 := varint_len10 (n := g) zq3; have h2 := varint_len10 (n := P.length) zq3; simp only [List.length_append]; omega
     generalize hO3 : O2 ++ (varint g ++ varint P.length) = O3 at hE9 hl9 HGRP
     clear hO3
     go_loopg [9, 70] P.length (fun gg s9 s70 wr => ∃ i : Nat, i ≤ P.length ∧ P.length - i ≤ gg ∧ s9 = .int .i64 (lastP (bn : Int) P i) ∧ s70 = .int .i64 i ∧ Aside0 (Enc w1 wr ge (fun _ => False) (O3 ++ dels (bn : Int) P i)))
     case atStart => exact ⟨0, zq3, zq3, rfl, rfl, ⟨by have e : dels (bn : Int) P 0 = [] := rfl; rw [e, List.append_nil]; exact hE9⟩⟩
     case round =>
      clear hE9
      rename World => wi
      obtain ⟨i, hi, hgi, rfl, rfl, HEi⟩ := hrel
      by_cases hli : i < P.length
      ·have hliz : (i : Int) < (P.length : Int) := by omega
       obtain ⟨ad4, u4, rfl, hc40, hK4⟩ := get_one (d := Kd.int .i64) rfl HLP.out 0 i hli
       obtain rfl : u4 = .int .i64 (P.getD i 0) := by have h : [u4] = [Value.int .i64 (P.getD i 0)] := hK4; injection h
       have hc4 : wi.cell? (ad4.add i) = some (.int .i64 (P.getD i 0)) := ((grew_trans HB.out (Enc.below HEi.out)).cell (World.block_lt_of_cell? w _ hc40)).trans hc40
       obtain ⟨d0, d1⟩ := HD.out i hli
       have hdl := del_last (bn : Int) P i
       have hdn : dels (bn : Int) P (i + 1) = dels (bn : Int) P i ++ varint (del (bn : Int) P i).toNat := flat_succ _ _
       have HLP2 := zA (show lastP (bn : Int) P (i + 1) = P.getD i 0 from by simp [lastP])
       have hdll := dels_len (b := (bn : Int)) (P := P) (n := i) (fun q hq => (HD.out q zq3).2)
       obtain ⟨g', hgn'⟩ : ∃ g : Nat, del (bn : Int) P i = (g : Int) := ⟨(del (bn : Int) P i).toNat, zq3⟩
       rw [hgn'] at d0 d1 hdl hdn
       rw [Int.toNat_natCast] at hdn
       have HDN := zA hdn
       clear hdn hgn' hc40
       have hdl2 : 0 ≤ P.getD i 0 - lastP (bn : Int) P i ∧ P.getD i 0 - lastP (bn : Int) P i ≤ 1000 := by omega
       generalize hxi : P.getD i 0 = xi at hc4 hdl hdl2 HLP2
       clear hxi
       generalize hlp : lastP (bn : Int) P i = lp at hdl hdl2
       clear hlp
       have h1n := one_number ge (xi - lp) g' (O3 ++ dels (bn : Int) P i) w1 wi HEi.out zq3 zq3 zq47
       go_wp2_with (go_at_call 144; refine h1n.mono ?_; rintro e w9' ⟨rfl, hE9⟩)
       go_roundg (P.length - (i + 1))
       case measure => omega
       case rel => exact ⟨i + 1, zq3, zq3, by rw [HLP2.out], by go_num, ⟨by rw [HDN.out, ← List.append_assoc]; exact hE9⟩⟩
      ·have hliz : ¬ (i : Int) < (P.length : Int) := by omega
       obtain rfl : i = P.length := by omega
       go_wp2
       go_roundg (K.length - (j + 1))
       case measure => omega
       case rel => exact ⟨j + 1, zq3, zq3, by rw [HLK.out], by go_num, ⟨by rw [HGRP.out]; exact HEi.out⟩⟩
    ·have hltz : ¬ (j : Int) < (K.length : Int) := by omega
     obtain rfl : j = K.length := by omega
     have hcode := HCODE.out
     have hEl := HE.out
     rw [← hcode] at hEl hGl
     clear hcode HCODE HE
     have hbyt := body_bytes ((bn : Int), ls, K, Ps) HBY.out
     have HCD := zA (show code ((bn : Int), ls, K, Ps) = body ((bn : Int), ls, K, Ps) ++ four (sum (body ((bn : Int), ls, K, Ps))) from rfl)
     generalize hbd : body ((bn : Int), ls, K, Ps) = bd at hEl hGl hbyt HCD
     clear hbd
     obtain ⟨hge0, hBe, Ao, co, hbe, hRe⟩ := hEl
     obtain ⟨Ax, cx, ex, hcx, hCx⟩ := Kd.R_reads hRe
     obtain ⟨rfl, rfl⟩ : Ao = Ax ∧ co = cx := by injection ex with q1 q2 q3; exact ⟨q1, q3⟩
     have hsum := sum_calls Ao co bd w8 hCx hbyt zq3
     have hcg : w8.cell? ⟨ge, 0, none⟩ = some (.slice Ao bd.length co) := (blk_cell hbe 0).trans rfl
     have hfg := blk_frozen hbe 0
     have HRE := zA (Kd.R_mono hRe (ok' := fun _ => True) (fun _ _ => trivial))
     have HBE := zA hBe
     have HSL := zA (sum_lt bd)
     clear hCx hRe hBe hbe hbyt ex hcx
     generalize hss : sum bd = hs at hsum HCD HSL
     clear hss
     go_wp2_with (first | (go_at_call 146; refine hsum.mono ?_; rintro e w' ⟨rfl, hw_⟩; subst w') | (at_builtin; refine Kd.R_append_rows (Kd.int .u8) (Rr := (Kd.int .u8).K (w8.alloc _)) (w0 := w1) w1.heap.size rfl (.tmp 91) (.tmp 103) 33 5 (.int .u8 0) 1 rfl Try.underlying33 infoB rfl zq13 zq13 (.slice Ao bd.length co) bd _ (some ⟨w8.heap.size, 0, none⟩) 4 4 (fun _ => True) (fun _ => False) rfl rfl (Kd.R_alloc HRE.out _) (four_row _ w8.heap.size _ _ _ _ (heap_alloc_new w8 _)) (fun x cs h => h) (fun _ h => h.elim) (fun _ _ => trivial) (below_alloc HBE.out _) (by have := HBE.out.size; simp; omega) zq3 ?_; rintro v1 w11 hR1 hB1 hg1 hat1))
     go_ret
     refine ⟨v1, rfl, ?_, grew_trans HB.out hB1⟩
     rw [HCD.out]
     have hsl := HSL.out
     have hR2 : Kd.R (Kd.int .u8) 5 w11 w1.heap.size (fun _ => True) v1 (bd ++ four hs) := by
      refine cast (congrArg (fun q => Kd.R (Kd.int .u8) 5 w11 w1.heap.size (fun _ => True) v1 (bd ++ q)) ?_) hR1
      unfold four
      congr 1 <;> first | rfl | omega | skip
     exact Kd.R_lower hR2 HG.out
end Go.Proofs.Ytmgmdnmfalepkaa.EncB

namespace Go.Proofs.Ytmgmdnmfalepkaa.SegOk
open Go.RowKit Go.Proofs.YtmgmdnmfalepkaaW.PrintWords Go.Proofs.YtmgmdnmfalepkaaW.PrintMore Go.Proofs.Ytmgmdnmfalepkaa.Kit Go.Proofs.Ytmgmdnmfalepkaa.PKit Go.Proofs.Ytmgmdnmfalepkaa.Ty Go.Proofs.Ytmgmdnmfalepkaa.PSeg Go.Proofs.Ytmgmdnmfalepkaa.PEnc Go.Proofs.Ytmgmdnmfalepkaa.Build Go.Proofs.Ytmgmdnmfalepkaa.EncA Go.Proofs.Ytmgmdnmfalepkaa.HelpBB
set_option linter.unusedVariables false
theorem cellI {w : World} {ad : Addr} {n : Nat} {xs : List Int} (h : Kd.C (Kd.int .i64) w (some ad) n xs) (i : Nat) (hi : i < n) : w.cell? (ad.add i) = some (.int .i64 (xs.getD i 0)) := by
 obtain ⟨ad', c, e, _, hK, hc0⟩ := Kd.C_get h 0 (i : Int) zq3 zq3
 cases e
 rw [Int.toNat_natCast] at hK hc0
 have hk : c = [.int .i64 (xs.getD i 0)] := hK
 subst hk
 have := hc0 0 _ rfl
 simpa [Kd.int, Kd.scalar] using this
set_option maxRecDepth 100000 in
set_option maxHeartbeats 4000000 in
theorem equal_calls (A A' : Option Addr) (c c' : Nat) (x y : List Int) (w : World) (hr : Kd.C (Kd.int .i64) w A x.length x) (hr' : Kd.C (Kd.int .i64) w A' y.length y) (hx0 : x.length ≤ 1099511627776) :
  Calls Try.prog 148 #[.slice A x.length c, .slice A' y.length c'] w fun e w' => e = .returned (.bool (decide (x = y))) ∧ Below w.heap.size w w' := by
 have HX := zA hr
 have HY := zA hr'
 clear hr hr'
 by_cases hlen : x.length = y.length
 ·have HLN := zA hlen
  have hbl : ((x.length : Int) != (y.length : Int)) = false := by simp [hlen]
  clear hlen
  go_enter Try.func148, Try.ntmps148
  go_wp2
  go_loopg [13] x.length (fun gg s13 wr => ∃ i : Nat, i ≤ x.length ∧ x.length - i ≤ gg ∧ s13 = .int .i64 i ∧ Aside0 (x.take i = y.take i) ∧ Aside0 (Below w.heap.size w wr))
  case atStart => exact ⟨0, zq3, zq3, rfl, ⟨rfl⟩, ⟨Below.refl _ _⟩⟩
  case round =>
   obtain ⟨i, hi, hg, rfl, HT, HB⟩ := hrel
   have hla : x.length ≤ y.length := Nat.le_of_eq HLN.out
   have hlb : y.length ≤ x.length := Nat.le_of_eq HLN.out.symm
   by_cases hlt : i < x.length
   ·have hltz : (i : Int) < (x.length : Int) := by omega
    have hlty : (i : Int) < (y.length : Int) := by omega
    obtain ⟨ad, hA, _⟩ := HX.out.2.2 zq3
    obtain ⟨ad', hA', _⟩ := HY.out.2.2 zq3
    subst hA
    subst hA'
    have hcx := cellI (Kd.C_below HX.out HB.out) i zq3
    have hcy := cellI (Kd.C_below HY.out HB.out) i zq3
    have hstep : x.getD i 0 = y.getD i 0 → x.take (i + 1) = y.take (i + 1) := fun e => by
     rw [List.take_succ_eq_append_getElem hlt, List.take_succ_eq_append_getElem (show i < y.length by omega), HT.out, ← getD_get' x i hlt, ← getD_get' y i zq3, e]
    have hne : x.getD i 0 ≠ y.getD i 0 → decide (x = y) = false := fun h => decide_eq_false (fun e => h (by rw [e]))
    have HS := zA hstep
    have HNE := zA hne
    clear hstep hne
    generalize hx : x.getD i 0 = xi at hcx HS HNE
    generalize hy : y.getD i 0 = yi at hcy HS HNE
    clear hx hy
    by_cases he : xi = yi
    ·subst he
     have hbn : (xi != xi) = false := by simp
     go_wp2_with fail
     go_quiet (fail)
     go_wp2
     go_roundg (x.length - (i + 1))
     case measure => omega
     case rel => exact ⟨i + 1, zq3, zq3, by go_num, ⟨HS.out (by first | rfl | trivial)⟩, ⟨pw_below_drewN HB.out _⟩⟩
    ·have hbn : (xi != yi) = true := by simpa using he
     go_wp2_with fail
     go_quiet (fail)
     go_wp2
     go_ret
     exact ⟨by rw [HNE.out he]; rfl, pw_below_drewN HB.out _⟩
   ·have hltz : ¬ (i : Int) < (x.length : Int) := by omega
    obtain rfl : i = x.length := by omega
    have he : x = y := by
     have h1 := HT.out
     rw [List.take_length, List.take_of_length_le zq3] at h1
     exact h1
    have HE := zA (show decide (x = y) = true from decide_eq_true he)
    clear he
    go_wp2
    go_ret
    exact ⟨by rw [HE.out]; rfl, HB.out⟩
 ·have hlz : ¬ (x.length : Int) = (y.length : Int) := by omega
  go_enter Try.func148, Try.ntmps148
  go_wp2
  go_ret
  exact ⟨by rw [decide_eq_false (fun e => hlen (by rw [e]))]; rfl, Below.refl _ _⟩
set_option maxRecDepth 100000 in
set_option maxHeartbeats 4000000 in
theorem equalF_calls (A A' : Option Addr) (c c' : Nat) (x y : List (List Int)) (w : World) (hr : Kd.C HelpII.kI w A x.length x) (hr' : Kd.C HelpII.kI w A' y.length y) (hx0 : x.length ≤ 1099511627776) (hx1 : HelpII.totalI x ≤ 1099511627776) :
  Calls Try.prog 149 #[.slice A x.length c, .slice A' y.length c', .func (.func 148) #[] #[]] w fun e w' => e = .returned (.bool (decide (x = y))) ∧ Below w.heap.size w w' := by
 have HX := zA hr
 have HY := zA hr'
 clear hr hr'
 by_cases hlen : x.length = y.length
 ·have HLN := zA hlen
  have hbl : ((x.length : Int) != (y.length : Int)) = false := by simp [hlen]
  clear hlen
  go_enter Try.func149, Try.ntmps149
  go_wp2
  go_loopg [17] x.length (fun gg s17 wr => ∃ i : Nat, i ≤ x.length ∧ x.length - i ≤ gg ∧ s17 = .int .i64 i ∧ Aside0 (x.take i = y.take i) ∧ Aside0 (Below w.heap.size w wr))
  case atStart => exact ⟨0, zq3, zq3, rfl, ⟨rfl⟩, ⟨Below.refl _ _⟩⟩
  case round =>
   obtain ⟨i, hi, hg, rfl, HT, HB⟩ := hrel
   have hla : x.length ≤ y.length := Nat.le_of_eq HLN.out
   have hlb : y.length ≤ x.length := Nat.le_of_eq HLN.out.symm
   by_cases hlt : i < x.length
   ·have hltz : (i : Int) < (x.length : Int) := by omega
    have hlty : (i : Int) < (y.length : Int) := by omega
    obtain ⟨ad, u, rfl, hc0, hK⟩ := get_one (d := HelpII.kI) rfl HX.out [] i hlt
    obtain ⟨B, b, e', _, hr1⟩ := hK
    obtain rfl : u = .slice B (x.getD i []).length b := by injection e'
    obtain ⟨ad', u', rfl, hc1, hK'⟩ := get_one (d := HelpII.kI) rfl HY.out [] i zq3
    obtain ⟨B', b', e'', _, hr2⟩ := hK'
    obtain rfl : u' = .slice B' (y.getD i []).length b' := by injection e''
    have hcx : wr.cell? (ad.add i) = some (.slice B (x.getD i []).length b) := (HB.out.cell (World.block_lt_of_cell? w _ hc0)).trans hc0
    have hcy : wr.cell? (ad'.add i) = some (.slice B' (y.getD i []).length b') := (HB.out.cell (World.block_lt_of_cell? w _ hc1)).trans hc1
    have gx : x.getD i [] = x[i] := by simp [List.getD, List.getElem?_eq_getElem hlt]
    have gy : y.getD i [] = y[i]'zq3 := by simp [List.getD, List.getElem?_eq_getElem (show i < y.length by omega)]
    have hle : (x.getD i []).length ≤ 1099511627776 := by
     have h1 := HelpII.total_mem (show x.getD i [] ∈ x by rw [gx]; exact List.getElem_mem hlt)
     omega
    have heq := equal_calls B B' b b' (x.getD i []) (y.getD i []) wr (Kd.C_below hr1 HB.out) (Kd.C_below hr2 HB.out) hle
    have hstep : x.getD i [] = y.getD i [] → x.take (i + 1) = y.take (i + 1) := fun e => by
     rw [List.take_succ_eq_append_getElem hlt, List.take_succ_eq_append_getElem (show i < y.length by omega), HT.out, ← gx, ← gy, e]
    have hne : x.getD i [] ≠ y.getD i [] → decide (x = y) = false := fun h => decide_eq_false (fun e => h (by rw [e]))
    have HS := zA hstep
    have HNE := zA hne
    clear hstep hne hr1 hr2 e' e'' hc0 hc1 gx gy hle
    generalize hx : x.getD i [] = xi at hcx HS HNE heq
    generalize hy : y.getD i [] = yi at hcy HS HNE heq
    clear hx hy
    by_cases he : xi = yi
    ·rw [decide_eq_true he] at heq
     have HEQ := zA he
     clear he
     go_wp2_with (go_at_call 148; refine heq.mono ?_; rintro e w2 ⟨rfl, hb2⟩)
     go_roundg (x.length - (i + 1))
     case measure => omega
     case rel => exact ⟨i + 1, zq3, zq3, by go_num, ⟨HS.out HEQ.out⟩, ⟨below_then HB.out HB.out.size hb2⟩⟩
    ·rw [decide_eq_false he] at heq
     have HEQ := zA he
     clear he
     go_wp2_with (go_at_call 148; refine heq.mono ?_; rintro e w2 ⟨rfl, hb2⟩)
     go_ret
     exact ⟨by rw [HNE.out HEQ.out]; rfl, below_then HB.out HB.out.size hb2⟩
   ·have hltz : ¬ (i : Int) < (x.length : Int) := by omega
    obtain rfl : i = x.length := by omega
    have he : x = y := by
     have h1 := HT.out
     rw [List.take_length, List.take_of_length_le zq3] at h1
     exact h1
    have HE := zA (show decide (x = y) = true from decide_eq_true he)
    clear he
    go_wp2
    go_ret
    exact ⟨by rw [HE.out]; rfl, HB.out⟩
 ·have hlz : ¬ (x.length : Int) = (y.length : Int) := by omega
  go_enter Try.func149, Try.ntmps149
  go_wp2
  go_ret
  exact ⟨by rw [decide_eq_false (fun e => hlen (by rw [e]))]; rfl, Below.refl _ _⟩
set_option maxRecDepth 100000 in
set_option maxHeartbeats 4000000 in
theorem segOk_calls (b : Int) (ls : List (List Int)) (K : List Int) (Ps : List (List Int)) (A1 A2 A3 : Option Addr) (c1 c2 c3 : Nat) (w : World) (h1 : HelpBB.tBB.K w ls (.slice A1 ls.length c1)) (h2 : HelpI.tI.K w K (.slice A2 K.length c2)) (h3 : HelpII.tII.K w Ps (.slice A3 Ps.length c3))
  (hby : Bytes ls) (hs : smallBB ls) (hk : K.length ≤ 1048576) (hp : Ps.length + HelpII.totalI Ps ≤ 1048576) :
  Calls Try.prog 108 #[.agg #[.int .i64 b, .slice A1 ls.length c1, .slice A2 K.length c2, .slice A3 Ps.length c3]] w fun e w' => e = .returned (.bool (valid (b, ls, K, Ps))) ∧ Below w.heap.size w w' := by
 have huI := Try.underlying50
 obtain ⟨B1, e1, q1, hc1, hr1⟩ := h1
 obtain ⟨rfl, rfl⟩ : A1 = B1 ∧ c1 = e1 := by injection q1 with q1 q2 q3; exact ⟨q1, q3⟩
 have R1 := zA hr1
 have C1 := zA hc1
 clear hc1 hr1 q1
 obtain ⟨B2, e2, q2, hc2, hr2⟩ := h2
 obtain ⟨rfl, rfl⟩ : A2 = B2 ∧ c2 = e2 := by injection q2 with q1 q2 q3; exact ⟨q1, q3⟩
 have R2 := zA hr2
 have C2 := zA hc2
 clear hc2 hr2 q2
 obtain ⟨B3, e3, q3, hc3, hr3⟩ := h3
 obtain ⟨rfl, rfl⟩ : A3 = B3 ∧ c3 = e3 := by injection q3 with q1 q2 q3; exact ⟨q1, q3⟩
 have R3 := zA hr3
 have C3 := zA hc3
 clear hc3 hr3 q3
 have HBY := zA hby
 have HS := zA hs
 have hbuild : ∀ w1 : World, Below w.heap.size w w1 → Calls Try.prog 40 #[.int .i64 b, .slice A1 ls.length c1] w1 fun e w' => ∃ v, e = .returned (.tuple #[v, .int .i64 (build b ls).2]) ∧ (∃ (bb : Int) (l1 : List (List Int)) (l2 : List Int) (l3 : List (List Int)) (D1 D2 D3 : Option Addr) (d1 d2 d3 : Nat), v = .agg #[.int .i64 bb, .slice D1 l1.length d1, .slice D2 l2.length d2, .slice D3 l3.length d3] ∧ (bb, l1, l2, l3) = (build b ls).1 ∧ Kd.C (Kd.int .i64) w' D2 l2.length l2 ∧ Kd.C HelpII.kI w' D3 l3.length l3) ∧ Grew w1 w' := fun w1 hw => by
  refine (build_calls b A1 c1 ls w1 (Kd.C_below R1.out hw) C1.out HBY.out HS.out).mono ?_
  rintro e w' ⟨v, rfl, hM, hg⟩
  refine ⟨v, rfl, ?_, hg⟩
  have hK := HelpSeg.tSeg.K_of_M hM
  generalize (build b ls).1 = R at hK ⊢
  obtain ⟨bb, l1, l2, l3⟩ := R
  obtain ⟨l, rfl, u0, r0, rfl, g0, u1, r1, rfl, g1, u2, r2, rfl, g2, u3, rfl, g3⟩ := hK
  have g0 : u0 = .int .i64 bb := g0
  subst g0
  obtain ⟨D1, d1, rfl, _, _⟩ := g1
  obtain ⟨D2, d2, rfl, _, hC2⟩ := g2
  obtain ⟨D3, d3, rfl, _, hC3⟩ := g3
  exact ⟨bb, l1, l2, l3, D1, D2, D3, d1, d2, d3, rfl, rfl, hC2, hC3⟩
 clear hby hs
 cases hf : fits b ls with
 | false =>
  have hv : valid (b, ls, K, Ps) = false := by
   show (fits b ls && _) = false
   rw [hf]
   rfl
  have HCO := zA (show (build b ls).2 = 4 from by rw [build_bad hf])
  rw [hv]
  clear hv hf
  go_enter Try.func108, Try.ntmps108
  go_wp2_with (first | ((with_reducible refine gate_dst (N := 1) rfl ?_); refine box_event ?hg (N := 1) ?hd (cs := #[.int .i64 b, .slice A1 ls.length c1, .slice A2 K.length c2, .slice A3 Ps.length c3]) (t := 50) ?hr ?_; (case hd => rfl); (case hg => rfl); (case hr => first | (go_simp; done) | (go_simp; rfl)); intro gs hg_ w1 hbx hbb; clear hg_; have BKs := zA hbx; have HB := zA hbb; have hc0 : (w1).cell? ⟨gs, 0, none⟩ = some (.int .i64 b) := (blk_cell hbx 0).trans rfl; have fhc0 := blk_frozen hbx 0; have hc1 : (w1).cell? ⟨gs, 1, none⟩ = some (.slice A1 ls.length c1) := (blk_cell hbx 1).trans rfl; have fhc1 := blk_frozen hbx 1; have hc2 : (w1).cell? ⟨gs, 2, none⟩ = some (.slice A2 K.length c2) := (blk_cell hbx 2).trans rfl; have fhc2 := blk_frozen hbx 2; have hc3 : (w1).cell? ⟨gs, 3, none⟩ = some (.slice A3 Ps.length c3) := (blk_cell hbx 3).trans rfl; have fhc3 := blk_frozen hbx 3; clear hbx hbb))
  go_at_call 40
  refine (hbuild w1 HB.out).mono ?_
  rintro e w2 ⟨v2, rfl, hM, hg2⟩
  rw [HCO.out]
  obtain ⟨bb, l1, l2, l3, D1, D2, D3, d1, d2, d3, ev, hCC⟩ := hM
  subst ev
  have HCC := zA hCC
  have HG2 := zA hg2
  have BK2 := zA (blk_below (g := gs) BKs.out hg2)
  have BK3 := zA (blk_alloc BK2.out (.cells #[.int .i64 bb, .slice D1 l1.length d1, .slice D2 l2.length d2, .slice D3 l3.length d3] 50 (0, 0)))
  clear hCC hg2
  have hd0 : (w2).cell? ⟨gs, 0, none⟩ = some (.int .i64 b) := (blk_cell BK2.out 0).trans rfl
  have fhd0 := blk_frozen BK2.out 0
  have hd1 : (w2).cell? ⟨gs, 1, none⟩ = some (.slice A1 ls.length c1) := (blk_cell BK2.out 1).trans rfl
  have fhd1 := blk_frozen BK2.out 1
  have hd2 : (w2).cell? ⟨gs, 2, none⟩ = some (.slice A2 K.length c2) := (blk_cell BK2.out 2).trans rfl
  have fhd2 := blk_frozen BK2.out 2
  have hd3 : (w2).cell? ⟨gs, 3, none⟩ = some (.slice A3 Ps.length c3) := (blk_cell BK2.out 3).trans rfl
  have fhd3 := blk_frozen BK2.out 3
  have he0 : (w2.alloc (.cells #[.int .i64 bb, .slice D1 l1.length d1, .slice D2 l2.length d2, .slice D3 l3.length d3] 50 (0, 0))).cell? ⟨gs, 0, none⟩ = some (.int .i64 b) := (blk_cell BK3.out 0).trans rfl
  have fhe0 := blk_frozen BK3.out 0
  have he1 : (w2.alloc (.cells #[.int .i64 bb, .slice D1 l1.length d1, .slice D2 l2.length d2, .slice D3 l3.length d3] 50 (0, 0))).cell? ⟨gs, 1, none⟩ = some (.slice A1 ls.length c1) := (blk_cell BK3.out 1).trans rfl
  have fhe1 := blk_frozen BK3.out 1
  have he2 : (w2.alloc (.cells #[.int .i64 bb, .slice D1 l1.length d1, .slice D2 l2.length d2, .slice D3 l3.length d3] 50 (0, 0))).cell? ⟨gs, 2, none⟩ = some (.slice A2 K.length c2) := (blk_cell BK3.out 2).trans rfl
  have fhe2 := blk_frozen BK3.out 2
  have he3 : (w2.alloc (.cells #[.int .i64 bb, .slice D1 l1.length d1, .slice D2 l2.length d2, .slice D3 l3.length d3] 50 (0, 0))).cell? ⟨gs, 3, none⟩ = some (.slice A3 Ps.length c3) := (blk_cell BK3.out 3).trans rfl
  have fhe3 := blk_frozen BK3.out 3
  go_wp2
  go_ret
  exact ⟨rfl, grew_trans (grew_trans HB.out HG2.out) (below_alloc (Below.refl _ _) _)⟩
 | true =>
  have HBD := zA (show (build b ls).1 = (b, ls, keys ls, (keys ls).map (post b ls ls.length)) from by unfold build; rw [hf]; rfl)
  have HCO := zA (show (build b ls).2 = 0 from by unfold build; rw [hf]; rfl)
  have HV := zA (show valid (b, ls, K, Ps) = (decide (K = keys ls) && decide (Ps = (keys ls).map (post b ls ls.length))) from by show (fits b ls && _) = _; rw [hf]; rfl)
  have HGR := zA (show ∀ W w2 : World, Below w.heap.size w W → W = w2 → True from fun _ _ _ _ => trivial)
  rw [HV.out]
  clear hf
  go_enter Try.func108, Try.ntmps108
  go_wp2_with (first | ((with_reducible refine gate_dst (N := 1) rfl ?_); refine box_event ?hg (N := 1) ?hd (cs := #[.int .i64 b, .slice A1 ls.length c1, .slice A2 K.length c2, .slice A3 Ps.length c3]) (t := 50) ?hr ?_; (case hd => rfl); (case hg => rfl); (case hr => first | (go_simp; done) | (go_simp; rfl)); intro gs hg_ w1 hbx hbb; clear hg_; have BKs := zA hbx; have HB := zA hbb; have hc0 : (w1).cell? ⟨gs, 0, none⟩ = some (.int .i64 b) := (blk_cell hbx 0).trans rfl; have fhc0 := blk_frozen hbx 0; have hc1 : (w1).cell? ⟨gs, 1, none⟩ = some (.slice A1 ls.length c1) := (blk_cell hbx 1).trans rfl; have fhc1 := blk_frozen hbx 1; have hc2 : (w1).cell? ⟨gs, 2, none⟩ = some (.slice A2 K.length c2) := (blk_cell hbx 2).trans rfl; have fhc2 := blk_frozen hbx 2; have hc3 : (w1).cell? ⟨gs, 3, none⟩ = some (.slice A3 Ps.length c3) := (blk_cell hbx 3).trans rfl; have fhc3 := blk_frozen hbx 3; clear hbx hbb))
  go_at_call 40
  refine (hbuild w1 HB.out).mono ?_
  rintro e w2 ⟨v2, rfl, hM, hg2⟩
  rw [HCO.out]
  obtain ⟨bb, l1, l2, l3, D1, D2, D3, d1, d2, d3, ev, hCC⟩ := hM
  subst ev
  have HCC := zA hCC
  have HG2 := zA hg2
  have BK2 := zA (blk_below (g := gs) BKs.out hg2)
  have BK3 := zA (blk_alloc BK2.out (.cells #[.int .i64 bb, .slice D1 l1.length d1, .slice D2 l2.length d2, .slice D3 l3.length d3] 50 (0, 0)))
  clear hCC hg2
  have hd0 : (w2).cell? ⟨gs, 0, none⟩ = some (.int .i64 b) := (blk_cell BK2.out 0).trans rfl
  have fhd0 := blk_frozen BK2.out 0
  have hd1 : (w2).cell? ⟨gs, 1, none⟩ = some (.slice A1 ls.length c1) := (blk_cell BK2.out 1).trans rfl
  have fhd1 := blk_frozen BK2.out 1
  have hd2 : (w2).cell? ⟨gs, 2, none⟩ = some (.slice A2 K.length c2) := (blk_cell BK2.out 2).trans rfl
  have fhd2 := blk_frozen BK2.out 2
  have hd3 : (w2).cell? ⟨gs, 3, none⟩ = some (.slice A3 Ps.length c3) := (blk_cell BK2.out 3).trans rfl
  have fhd3 := blk_frozen BK2.out 3
  have he0 : (w2.alloc (.cells #[.int .i64 bb, .slice D1 l1.length d1, .slice D2 l2.length d2, .slice D3 l3.length d3] 50 (0, 0))).cell? ⟨gs, 0, none⟩ = some (.int .i64 b) := (blk_cell BK3.out 0).trans rfl
  have fhe0 := blk_frozen BK3.out 0
  have he1 : (w2.alloc (.cells #[.int .i64 bb, .slice D1 l1.length d1, .slice D2 l2.length d2, .slice D3 l3.length d3] 50 (0, 0))).cell? ⟨gs, 1, none⟩ = some (.slice A1 ls.length c1) := (blk_cell BK3.out 1).trans rfl
  have fhe1 := blk_frozen BK3.out 1
  have he2 : (w2.alloc (.cells #[.int .i64 bb, .slice D1 l1.length d1, .slice D2 l2.length d2, .slice D3 l3.length d3] 50 (0, 0))).cell? ⟨gs, 2, none⟩ = some (.slice A2 K.length c2) := (blk_cell BK3.out 2).trans rfl
  have fhe2 := blk_frozen BK3.out 2
  have he3 : (w2.alloc (.cells #[.int .i64 bb, .slice D1 l1.length d1, .slice D2 l2.length d2, .slice D3 l3.length d3] 50 (0, 0))).cell? ⟨gs, 3, none⟩ = some (.slice A3 Ps.length c3) := (blk_cell BK3.out 3).trans rfl
  have fhe3 := blk_frozen BK3.out 3
  go_wp2_with fail
  have HL := zA (HCC.out.1.trans HBD.out)
  have HL2 := zA (show l2 = keys ls from congrArg (fun q => q.2.2.1) HL.out)
  have HL3 := zA (show l3 = (keys ls).map (post b ls ls.length) from congrArg (fun q => q.2.2.2) HL.out)
  have HW := zA (grew_trans (grew_trans HB.out HG2.out) (below_alloc (Below.refl _ w2) (.cells #[.int .i64 bb, .slice D1 l1.length d1, .slice D2 l2.length d2, .slice D3 l3.length d3] 50 (0, 0))))
  have heq := equal_calls A2 D2 c2 d2 K l2 (w2.alloc (.cells #[.int .i64 bb, .slice D1 l1.length d1, .slice D2 l2.length d2, .slice D3 l3.length d3] 50 (0, 0))) (Kd.C_below R2.out HW.out) (Kd.C_alloc HCC.out.2.1 _) zq3
  have HBT := zA (show (w2.alloc (.cells #[.int .i64 bb, .slice D1 l1.length d1, .slice D2 l2.length d2, .slice D3 l3.length d3] 50 (0, 0))).heap[w2.heap.size]? = some (.cells #[.int .i64 bb, .slice D1 l1.length d1, .slice D2 l2.length d2, .slice D3 l3.length d3] 50 (0, 0)) from heap_alloc_new w2 _)
  by_cases hKe : K = l2
  ·rw [decide_eq_true hKe] at heq
   have HR1 := zA (show decide (K = keys ls) = true from decide_eq_true (hKe.trans HL2.out))
   clear hKe
   refine heq.mono ?_
   rintro e w4 ⟨rfl, hb4⟩
   have BK4 := zA (blk_below (g := gs) BK3.out hb4)
   have BT4 := zA (blk_below (g := w2.heap.size) HBT.out hb4)
   have HW4 := zA (grew_trans HW.out hb4)
   have hD3 := Kd.C_below (Kd.C_alloc HCC.out.2.2 (.cells #[.int .i64 bb, .slice D1 l1.length d1, .slice D2 l2.length d2, .slice D3 l3.length d3] 50 (0, 0))) hb4
   have heqF := equalF_calls A3 D3 c3 d3 Ps l3 w4 (Kd.C_below R3.out HW4.out) hD3 zq3 zq3
   have hg0 : w4.cell? ⟨gs, 0, none⟩ = some (.int .i64 b) := (blk_cell BK4.out 0).trans rfl
   have fhg0 := blk_frozen BK4.out 0
   have hg1 : w4.cell? ⟨gs, 1, none⟩ = some (.slice A1 ls.length c1) := (blk_cell BK4.out 1).trans rfl
   have fhg1 := blk_frozen BK4.out 1
   have hg2 : w4.cell? ⟨gs, 2, none⟩ = some (.slice A2 K.length c2) := (blk_cell BK4.out 2).trans rfl
   have fhg2 := blk_frozen BK4.out 2
   have hg3 : w4.cell? ⟨gs, 3, none⟩ = some (.slice A3 Ps.length c3) := (blk_cell BK4.out 3).trans rfl
   have fhg3 := blk_frozen BK4.out 3
   have ht0 : w4.cell? ⟨w2.heap.size, 0, none⟩ = some (.int .i64 bb) := (blk_cell BT4.out 0).trans rfl
   have fht0 := blk_frozen BT4.out 0
   have ht1 : w4.cell? ⟨w2.heap.size, 1, none⟩ = some (.slice D1 l1.length d1) := (blk_cell BT4.out 1).trans rfl
   have fht1 := blk_frozen BT4.out 1
   have ht2 : w4.cell? ⟨w2.heap.size, 2, none⟩ = some (.slice D2 l2.length d2) := (blk_cell BT4.out 2).trans rfl
   have fht2 := blk_frozen BT4.out 2
   have ht3 : w4.cell? ⟨w2.heap.size, 3, none⟩ = some (.slice D3 l3.length d3) := (blk_cell BT4.out 3).trans rfl
   have fht3 := blk_frozen BT4.out 3
   go_wp2_with (go_at_call 149; refine heqF.mono ?_; rintro e w5 ⟨rfl, hb5⟩)
   go_ret
   refine ⟨?_, grew_trans HW4.out hb5⟩
   rw [HR1.out, Bool.true_and, ← HL3.out]
   rfl
  ·rw [decide_eq_false hKe] at heq
   have HR1 := zA (show decide (K = keys ls) = false from decide_eq_false (fun e => hKe (e.trans HL2.out.symm)))
   clear hKe
   refine heq.mono ?_
   rintro e w4 ⟨rfl, hb4⟩
   go_wp2
   go_ret
   refine ⟨?_, grew_trans HW.out hb4⟩
   rw [HR1.out, Bool.false_and]
   rfl
end Go.Proofs.Ytmgmdnmfalepkaa.SegOk

namespace Go.Proofs.Ytmgmdnmfalepkaa.Encode
open Go.RowKit Go.Proofs.YtmgmdnmfalepkaaW.PrintWords Go.Proofs.YtmgmdnmfalepkaaW.PrintMore Go.Proofs.Ytmgmdnmfalepkaa.Kit Go.Proofs.Ytmgmdnmfalepkaa.PKit Go.Proofs.Ytmgmdnmfalepkaa.Ty Go.Proofs.Ytmgmdnmfalepkaa.PSeg Go.Proofs.Ytmgmdnmfalepkaa.PEnc Go.Proofs.Ytmgmdnmfalepkaa.Build Go.Proofs.Ytmgmdnmfalepkaa.EncA Go.Proofs.Ytmgmdnmfalepkaa.EncB Go.Proofs.Ytmgmdnmfalepkaa.SegOk Go.Proofs.Ytmgmdnmfalepkaa.HelpBB
set_option linter.unusedVariables false
theorem small_parts' {x : SegT} (h : HelpSeg.smallSeg x) : smallBB x.2.1 ∧ x.2.2.1.length ≤ 1048576 ∧ x.2.2.2.length + HelpII.totalI x.2.2.2 ≤ 1048576 := by
 have h' : (x.2.1.length + HelpBB.totalB x.2.1) + x.2.2.1.length + (x.2.2.2.length + HelpII.totalI x.2.2.2) ≤ 1048576 := h
 exact ⟨by show _ ≤ _; omega, zq3, zq3⟩
set_option maxRecDepth 100000 in
set_option maxHeartbeats 4000000 in
theorem implC (x0 : SegT) (v0 : Value) (w : World) (h0 : HelpSeg.tSeg.K w x0 v0) (s0 : HelpSeg.smallSeg x0) (hb : Bytes x0.2.1) :
  Calls Try.prog 49 #[v0] w fun e w' => ∃ v', e = .returned v' ∧ HelpB.tB.M w' w.heap.size (fun _ => True) (enc x0) v' ∧ Grew w w' := by
 have huI := Try.underlying50
 obtain ⟨p1, p2, p3⟩ := small_parts' s0
 clear s0
 obtain ⟨b, ls, K, Ps⟩ := x0
 obtain ⟨l, rfl, u0, r0, rfl, g0, u1, r1, rfl, g1, u2, r2, rfl, g2, u3, rfl, g3⟩ := h0
 have g0 : u0 = .int .i64 b := g0
 subst g0
 obtain ⟨A1, c1, rfl, hc1, hr1⟩ := g1
 obtain ⟨A2, c2, rfl, hc2, hr2⟩ := g2
 obtain ⟨A3, c3, rfl, hc3, hr3⟩ := g3
 have K1 := zA (show HelpBB.tBB.K w ls (.slice A1 ls.length c1) from ⟨A1, c1, rfl, hc1, hr1⟩)
 have K2 := zA (show HelpI.tI.K w K (.slice A2 K.length c2) from ⟨A2, c2, rfl, hc2, hr2⟩)
 have K3 := zA (show HelpII.tII.K w Ps (.slice A3 Ps.length c3) from ⟨A3, c3, rfl, hc3, hr3⟩)
 have hb : Bytes ls := hb
 have HBY := zA hb
 have p1 : smallBB ls := p1
 have p2 : K.length ≤ 1048576 := p2
 have p3 : Ps.length + HelpII.totalI Ps ≤ 1048576 := p3
 clear hc1 hr1 hc2 hr2 hc3 hr3 hb
 have hseg : ∀ w1 : World, Below w.heap.size w w1 → Calls Try.prog 108 #[.agg #[.int .i64 b, .slice A1 ls.length c1, .slice A2 K.length c2, .slice A3 Ps.length c3]] w1 fun e w' => e = .returned (.bool (valid (b, ls, K, Ps))) ∧ Below w1.heap.size w1 w' := fun w1 hw => segOk_calls b ls K Ps A1 A2 A3 c1 c2 c3 w1 (HelpBB.tBB.K_below hw K1.out) (HelpI.tI.K_below hw K2.out) (HelpII.tII.K_below hw K3.out) HBY.out p1 p2 p3
 clear p1 p2 p3
 show Calls _ _ #[.agg #[.int .i64 b, .slice A1 ls.length c1, .slice A2 K.length c2, .slice A3 Ps.length c3]] w _
 cases hv : valid (b, ls, K, Ps) with
 | false =>
  rw [hv] at hseg
  have HE := zA (show enc (b, ls, K, Ps) = [] from by unfold enc; rw [hv]; rfl)
  clear hv
  go_enter Try.func49, Try.ntmps49
  go_wp2_with (first | ((with_reducible refine gate_dst (N := 1) rfl ?_); refine box_event ?hg (N := 1) ?hd (cs := #[.int .i64 b, .slice A1 ls.length c1, .slice A2 K.length c2, .slice A3 Ps.length c3]) (t := 50) ?hr ?_; (case hd => rfl); (case hg => rfl); (case hr => first | (go_simp; done) | (go_simp; rfl)); intro gs hg_ w1 hbx hbb; clear hg_; have BKs := zA hbx; have HB := zA hbb; have hc0 : w1.cell? ⟨gs, 0, none⟩ = some (.int .i64 b) := (blk_cell hbx 0).trans rfl; have fhc0 := blk_frozen hbx 0; have hc1 : w1.cell? ⟨gs, 1, none⟩ = some (.slice A1 ls.length c1) := (blk_cell hbx 1).trans rfl; have fhc1 := blk_frozen hbx 1; have hc2 : w1.cell? ⟨gs, 2, none⟩ = some (.slice A2 K.length c2) := (blk_cell hbx 2).trans rfl; have fhc2 := blk_frozen hbx 2; have hc3 : w1.cell? ⟨gs, 3, none⟩ = some (.slice A3 Ps.length c3) := (blk_cell hbx 3).trans rfl; have fhc3 := blk_frozen hbx 3; clear hbx hbb) | (go_at_call 108; refine (hseg w1 HB.out).mono ?_; rintro e w2 ⟨rfl, hg2⟩; have BK2 := zA (blk_below (g := gs) BKs.out hg2); have HG2 := zA hg2; clear hg2; have hd0 : w2.cell? ⟨gs, 0, none⟩ = some (.int .i64 b) := (blk_cell BK2.out 0).trans rfl; have fhd0 := blk_frozen BK2.out 0; have hd1 : w2.cell? ⟨gs, 1, none⟩ = some (.slice A1 ls.length c1) := (blk_cell BK2.out 1).trans rfl; have fhd1 := blk_frozen BK2.out 1; have hd2 : w2.cell? ⟨gs, 2, none⟩ = some (.slice A2 K.length c2) := (blk_cell BK2.out 2).trans rfl; have fhd2 := blk_frozen BK2.out 2; have hd3 : w2.cell? ⟨gs, 3, none⟩ = some (.slice A3 Ps.length c3) := (blk_cell BK2.out 3).trans rfl; have fhd3 := blk_frozen BK2.out 3))
  go_ret
  refine ⟨_, rfl, ?_, grew_trans HB.out HG2.out⟩
  rw [HE.out]
  exact Kd.R_nil _ _ _ _ _
 | true =>
  rw [hv] at hseg
  have HE := zA (show enc (b, ls, K, Ps) = code (b, ls, K, Ps) from by unfold enc; rw [hv]; rfl)
  obtain ⟨q1, q2⟩ := valid_seg hv
  have hok : EncOk (b, ls, K, Ps) := by rw [q2]; exact encOk_seg q1 HBY.out
  have hb0 : 0 ≤ b := hok.b0
  clear hv q1 q2
  obtain ⟨bn, rfl⟩ : ∃ n : Nat, b = (n : Int) := ⟨b.toNat, zq3⟩
  have HOK := zA hok
  clear hok hb0
  have henc : ∀ w2 : World, Below w.heap.size w w2 → Calls Try.prog 105 #[.agg #[.int .i64 (bn : Int), .slice A1 ls.length c1, .slice A2 K.length c2, .slice A3 Ps.length c3]] w2 fun e w' => ∃ v', e = .returned v' ∧ HelpB.tB.M w' w2.heap.size (fun _ => True) (code ((bn : Int), ls, K, Ps)) v' ∧ Grew w2 w' := fun w2 hw => encoded_calls bn ls K Ps A1 A2 A3 c1 c2 c3 w2 (HelpBB.tBB.K_below hw K1.out) (HelpI.tI.K_below hw K2.out) (HelpII.tII.K_below hw K3.out) HOK.out HBY.out
  go_enter Try.func49, Try.ntmps49
  go_wp2_with (first | ((with_reducible refine gate_dst (N := 1) rfl ?_); refine box_event ?hg (N := 1) ?hd (cs := #[.int .i64 (bn : Int), .slice A1 ls.length c1, .slice A2 K.length c2, .slice A3 Ps.length c3]) (t := 50) ?hr ?_; (case hd => rfl); (case hg => rfl); (case hr => first | (go_simp; done) | (go_simp; rfl)); intro gs hg_ w1 hbx hbb; clear hg_; have BKs := zA hbx; have HB := zA hbb; have hc0 : w1.cell? ⟨gs, 0, none⟩ = some (.int .i64 (bn : Int)) := (blk_cell hbx 0).trans rfl; have fhc0 := blk_frozen hbx 0; have hc1 : w1.cell? ⟨gs, 1, none⟩ = some (.slice A1 ls.length c1) := (blk_cell hbx 1).trans rfl; have fhc1 := blk_frozen hbx 1; have hc2 : w1.cell? ⟨gs, 2, none⟩ = some (.slice A2 K.length c2) := (blk_cell hbx 2).trans rfl; have fhc2 := blk_frozen hbx 2; have hc3 : w1.cell? ⟨gs, 3, none⟩ = some (.slice A3 Ps.length c3) := (blk_cell hbx 3).trans rfl; have fhc3 := blk_frozen hbx 3; clear hbx hbb) | (go_at_call 108; refine (hseg w1 HB.out).mono ?_; rintro e w2 ⟨rfl, hg2⟩; have BK2 := zA (blk_below (g := gs) BKs.out hg2); have HG2 := zA hg2; clear hg2; have hd0 : w2.cell? ⟨gs, 0, none⟩ = some (.int .i64 (bn : Int)) := (blk_cell BK2.out 0).trans rfl; have fhd0 := blk_frozen BK2.out 0; have hd1 : w2.cell? ⟨gs, 1, none⟩ = some (.slice A1 ls.length c1) := (blk_cell BK2.out 1).trans rfl; have fhd1 := blk_frozen BK2.out 1; have hd2 : w2.cell? ⟨gs, 2, none⟩ = some (.slice A2 K.length c2) := (blk_cell BK2.out 2).trans rfl; have fhd2 := blk_frozen BK2.out 2; have hd3 : w2.cell? ⟨gs, 3, none⟩ = some (.slice A3 Ps.length c3) := (blk_cell BK2.out 3).trans rfl; have fhd3 := blk_frozen BK2.out 3) | (go_at_call 105; refine (henc w2 (grew_trans HB.out HG2.out)).mono ?_; rintro e w3 ⟨v3, rfl, hM3, hg3⟩))
  go_ret
  refine ⟨v3, rfl, ?_, grew_trans (grew_trans HB.out HG2.out) hg3⟩
  rw [HE.out]
  exact HelpB.tB.M_lower (grew_trans HB.out HG2.out).size hM3
end Go.Proofs.Ytmgmdnmfalepkaa.Encode

namespace Go.Proofs.Ytmgmdnmfalepkaa.DecA
open Go.RowKit Go.Proofs.YtmgmdnmfalepkaaW.PrintWords Go.Proofs.YtmgmdnmfalepkaaW.PrintMore Go.Proofs.Ytmgmdnmfalepkaa.Kit Go.Proofs.Ytmgmdnmfalepkaa.PKit Go.Proofs.Ytmgmdnmfalepkaa.Ty Go.Proofs.Ytmgmdnmfalepkaa.PDec Go.Proofs.Ytmgmdnmfalepkaa.Build Go.Proofs.Ytmgmdnmfalepkaa.HelpBB
set_option linter.unusedVariables false
def St (w0 w : World) (g : Nat) (r : List Int) (bad : Bool) (f2 f3 : Value) : Prop :=
 w0.heap.size ≤ g ∧ Below w0.heap.size w0 w ∧ ∃ A c, w.heap[g]? = some (.cells #[.slice A r.length c, .bool bad, f2, f3] 119 (0, 0)) ∧ Kd.C (Kd.int .u8) w0 A r.length r ∧ r.length ≤ c
theorem St.below {w0 w W : World} {g : Nat} {r : List Int} {bad : Bool} {f2 f3 : Value} (h : St w0 w g r bad f2 f3) (hb : Below w.heap.size w W) : St w0 W g r bad f2 f3 := by
 obtain ⟨h1, h2, A, c, h3, h4, h5⟩ := h
 exact ⟨h1, below_step h2 hb, A, c, blk_below h3 hb, h4, h5⟩
theorem St.cell {w0 w : World} {g : Nat} {r : List Int} {bad : Bool} {f2 f3 : Value} (h : St w0 w g r bad f2 f3) : w.cell? ⟨g, 1, none⟩ = some (.bool bad) ∧ w.frozen? ⟨g, 1, none⟩ = false ∧ w.cell? ⟨g, 2, none⟩ = some f2 ∧ w.frozen? ⟨g, 2, none⟩ = false ∧ w.cell? ⟨g, 3, none⟩ = some f3 ∧ w.frozen? ⟨g, 3, none⟩ = false := by
 obtain ⟨h1, h2, A, c, h3, h4, h5⟩ := h
 exact ⟨(blk_cell h3 1).trans rfl, blk_frozen h3 1, (blk_cell h3 2).trans rfl, blk_frozen h3 2, (blk_cell h3 3).trans rfl, blk_frozen h3 3⟩
theorem St.put2 {w0 w : World} {g : Nat} {r : List Int} {bad : Bool} {f2 f3 : Value} (h : St w0 w g r bad f2 f3) (u : Value) : St w0 (w.setCell ⟨g, 2, none⟩ u) g r bad u f3 := by
 obtain ⟨h1, h2, A, c, h3, h4, h5⟩ := h
 exact ⟨h1, below_set h2 h1, A, c, blk_put (cs := #[.slice A r.length c, .bool bad, f2, f3]) h3 2 _ rfl, h4, h5⟩
theorem St.put3 {w0 w : World} {g : Nat} {r : List Int} {bad : Bool} {f2 f3 : Value} (h : St w0 w g r bad f2 f3) (u : Value) : St w0 (w.setCell ⟨g, 3, none⟩ u) g r bad f2 u := by
 obtain ⟨h1, h2, A, c, h3, h4, h5⟩ := h
 exact ⟨h1, below_set h2 h1, A, c, blk_put (cs := #[.slice A r.length c, .bool bad, f2, f3]) h3 3 _ rfl, h4, h5⟩
theorem St.lt {w0 w : World} {g : Nat} {r : List Int} {bad : Bool} {f2 f3 : Value} (h : St w0 w g r bad f2 f3) : g < w.heap.size := by
 obtain ⟨h1, h2, A, c, h3, h4, h5⟩ := h
 exact blk_lt h3
theorem St.grown {w0 w w1 : World} {g : Nat} {r : List Int} {bad : Bool} {f2 f3 : Value} (h : St w0 w g r bad f2 f3) (hg : w.grownBy w1 f3.ownBlock) (hne : f3.ownBlock ≠ some g) (hB : Below w0.heap.size w0 w1) : St w0 w1 g r bad f2 f3 := by
 obtain ⟨h1, h2, A, c, h3, h4, h5⟩ := h
 exact ⟨h1, hB, A, c, blk_grown h3 hg (fun e => hne e.symm), h4, h5⟩
def numS (r : List Int) (bad : Bool) : Nat × List Int × Bool := match rdNum 5 r with
 | some q => (q.1, q.2, bad)
 | none => (0, r, true)
def takeS (n : Nat) (r : List Int) (bad : Bool) : List Int × List Int × Bool := if n ≤ r.length then (r.take n, r.drop n, bad) else ([], r, true)
theorem or_add (v x k : Nat) (hv : v < 2 ^ k) (hx : x < 128) (hk : k ≤ 28) : Go.bits .or .i64 (v : Int) ((x * 2 ^ k : Nat) : Int) = ((v + x * 2 ^ k : Nat) : Int) := by
 have hp : 2 ^ k ≤ 2 ^ 28 := Nat.pow_le_pow_right zq13 hk
 have hm : x * 2 ^ k ≤ 127 * 2 ^ 28 := Nat.mul_le_mul zq3 hp
 have hp' : 2 ^ 28 = 268435456 := by decide
 have h1 : (BitVec.ofInt 64 (v : Int)).toNat = v := by
  rw [BitVec.ofInt_natCast, BitVec.toNat_ofNat]; exact Nat.mod_eq_of_lt zq3
 have h2 : (BitVec.ofInt 64 ((x * 2 ^ k : Nat) : Int)).toNat = x * 2 ^ k := by
  rw [BitVec.ofInt_natCast, BitVec.toNat_ofNat]; exact Nat.mod_eq_of_lt zq3
 have h3 : v ||| x * 2 ^ k = v + x * 2 ^ k := by
  have := Nat.two_pow_add_eq_or_of_lt hv x
  rw [Nat.or_comm, Nat.mul_comm x, ← this]
  omega
 show IntKind.i64.wrap ((BitVec.ofInt 64 (v : Int) ||| BitVec.ofInt 64 ((x * 2 ^ k : Nat) : Int)).toNat : Int) = _
 rw [BitVec.toNat_or, h1, h2, h3, IntKind.wrap_i64]
 omega
theorem rdNum_cons (k : Nat) (c : Int) (r : List Int) : rdNum (k + 1) (c :: r) = if c < 128 then some (c.toNat, r) else (rdNum k r).map fun q => (c.toNat % 128 + 128 * q.1, q.2) := rfl
theorem rdNum_nil (k : Nat) : rdNum k [] = none := by cases k <;> rfl
theorem getD_get' (l : List Int) (i : Nat) (h : i < l.length) : l.getD i 0 = l[i] := by simp [List.getD, List.getElem?_eq_getElem h]
theorem and127 (x : Int) (h0 : 0 ≤ x) (h1 : x ≤ 255) : Go.bits .and .u8 x 127 = ((x.toNat % 128 : Nat) : Int) := by
 have key : ∀ m : Fin 256, Go.bits .and .u8 ((m.val : Nat) : Int) 127 = ((m.val % 128 : Nat) : Int) := by decide +kernel
 have := key ⟨x.toNat, zq3⟩
 simp only [Int.toNat_of_nonneg h0] at this
 exact this
theorem step_val (v i : Nat) (x : Int) (hv : v < 2 ^ (7 * i)) (hi : i < 5) (h0 : 0 ≤ x) (h1 : x ≤ 255) :
  Go.bits .or .i64 (v : Int) (wrap64 (wrap64 (Go.bits .and .u8 x 127) * 2 ^ (7 * i))) = ((v + x.toNat % 128 * 2 ^ (7 * i) : Nat) : Int) := by
 have hm : x.toNat % 128 < 128 := Nat.mod_lt _ zq13
 have hk : 7 * i ≤ 28 := by omega
 rw [and127 x h0 h1]
 generalize x.toNat % 128 = m at hm
 generalize 7 * i = k at hv hk
 have hp : 2 ^ k ≤ 268435456 := Nat.le_trans (Nat.pow_le_pow_right zq13 hk) zq13
 have e1 : wrap64 (m : Int) = (m : Int) := wrap_in zq3
 have e2 : (m : Int) * 2 ^ k = ((m * 2 ^ k : Nat) : Int) := by rw [Int.natCast_mul, Int.natCast_pow]; rfl
 have hmul : m * 2 ^ k ≤ 127 * 268435456 := Nat.mul_le_mul zq3 hp
 rw [e1, e2, wrap_in zq3]
 exact or_add v m k hv hm hk
theorem St.cut {w0 w : World} {g : Nat} {A : Option Addr} {c : Nat} {r : List Int} {bad : Bool} {f2 f3 : Value} (hg : w0.heap.size ≤ g) (hB : Below w0.heap.size w0 w) (hk : w.heap[g]? = some (.cells #[.slice A r.length c, .bool bad, f2, f3] 119 (0, 0))) (hC : Kd.C (Kd.int .u8) w0 A r.length r) (hc : r.length ≤ c) (m : Nat) (hm : m ≤ r.length) (A' : Option Addr) (n' c' : Nat) (hA : A' = if c = m then A else A.map (·.add m)) (hn' : n' = r.length - m) (hc' : c' = c - m) :
  St w0 (w.setCell ⟨g, 0, none⟩ (.slice A' n' c')) g (r.drop m) bad f2 f3 := by
 subst hn' hc'
 have hd := Kd.C_drop (c := c) hC hm hc
 have e : (Kd.int .u8 : Kd Int).sz = 1 := rfl
 rw [e, Nat.mul_one, ← hA] at hd
 refine ⟨hg, below_set hB hg, A', c - m, ?_, hd, by rw [List.length_drop]; omega⟩
 refine blk_put (cs := #[.slice A r.length c, .bool bad, f2, f3]) hk 0 _ ?_
 rw [List.length_drop]
 rfl
theorem kept_set (w : World) (g o : Nat) (u : Value) : Kept w (w.setCell ⟨g, o, none⟩ u) (fun k => k = g) := Kept.setCell (S := fun k => k = g) (p := ⟨g, o, none⟩) (Kept.refl w _) (.inl rfl) u
set_option maxRecDepth 100000 in
set_option maxHeartbeats 4000000 in
theorem number_calls (g : Nat) (r : List Int) (bad : Bool) (f2 f3 : Value) (w0 w : World) (hS : St w0 w g r bad f2 f3) (hb : ∀ x ∈ r, 0 ≤ x ∧ x ≤ 255) (hl : r.length ≤ 1048576) :
  Calls Try.prog 143 #[.pointer (some ⟨g, 0, none⟩)] w fun e w' => e = .returned (.int .i64 ((numS r bad).1 : Int)) ∧ St w0 w' g (numS r bad).2.1 (numS r bad).2.2 f2 f3 ∧ Kept w w' (fun k => k = g) := by
 obtain ⟨hg0, hB, A, c, hb0, hC, hc⟩ := hS
 have HB := zA hB
 have HK := zA hb0
 have HC := zA hC
 have HY := zA hb
 have h0 : w.cell? ⟨g, 0, none⟩ = some (.slice A r.length c) := (blk_cell hb0 0).trans rfl
 have f0 := blk_frozen hb0 0
 have h1 : w.cell? ⟨g, 1, none⟩ = some (.bool bad) := (blk_cell hb0 1).trans rfl
 have f1 := blk_frozen hb0 1
 clear hB hb0 hC hb
 go_enter Try.func143, Try.ntmps143
 go_wp2
 go_loopg [3, 11] 5 (fun gg s3 s11 wr => ∃ i v : Nat, i ≤ 5 ∧ i ≤ r.length ∧ 5 - i ≤ gg ∧ s3 = .int .i64 (v : Int) ∧ s11 = .int .i64 (i : Int) ∧ v < 2 ^ (7 * i) ∧ Aside0 (rdNum 5 r = (rdNum (5 - i) (r.drop i)).map fun q => (v + 2 ^ (7 * i) * q.1, q.2)) ∧ wr = w)
 case atStart => exact ⟨0, 0, zq3, zq3, zq3, rfl, rfl, zq13, ⟨by cases h : rdNum 5 r <;> simp [h]⟩, rfl⟩
 case round =>
  obtain ⟨i, v, hi5, hi, hg, rfl, rfl, hv, HR, rfl⟩ := hrel
  by_cases hlt : i < r.length
  ·have hltz : (i : Int) < (r.length : Int) := by omega
   obtain ⟨ad, hA, _⟩ := HC.out.2.2 zq3
   subst hA
   have hcell : wr.cell? (ad.add i) = some (.int .u8 (r.getD i 0)) := pw_cell_below HB.out (cellB HC.out i hlt)
   obtain ⟨c0, c1⟩ := HY.out (r.getD i 0) (by rw [getD_get' r i hlt]; exact List.getElem_mem hlt)
   have HD := zA (getD_drop r i hlt)
   generalize r.getD i 0 = x at hcell c0 c1 HD
   by_cases h5 : i = 5
   ·subst h5
    have HN := zA (show numS r bad = (0, r, true) from by
     unfold numS
     rw [HR.out]
     rfl)
    have hcell5 : wr.cell? ⟨ad.block, ad.off + 5, none⟩ = some (.int .u8 x) := hcell
    have hlt5 : (5 : Int) < (r.length : Int) := by omega
    go_wp2
    go_ret
    rw [HN.out]
    exact ⟨rfl, ⟨hg0, below_set HB.out hg0, some ad, c, blk_put (cs := #[.slice (some ad) r.length c, .bool bad, f2, f3]) HK.out 1 _ rfl, HC.out, hc⟩, kept_set _ _ _ _⟩
   ·have h5z : ¬ (i : Int) = 5 := by omega
    have e5 : 5 - i = (4 - i) + 1 := by omega
    have HV := zA (step_val v i x hv zq3 c0 c1)
    by_cases h128 : x < 128
    ·have HN := zA (show numS r bad = (v + x.toNat % 128 * 2 ^ (7 * i), r.drop (i + 1), bad) from by
      have hr := HR.out
      rw [e5, HD.out, rdNum_cons, if_pos h128, Option.map_some] at hr
      unfold numS
      rw [hr]
      have : x.toNat % 128 = x.toNat := Nat.mod_eq_of_lt zq3
      simp only [this, Nat.mul_comm])
     have HS := zA (St.cut hg0 HB.out HK.out HC.out hc (i + 1) zq3)
     by_cases hcm : c = i + 1
     ·subst hcm
      go_wp2
      go_ret
      rw [HN.out]
      exact ⟨congrArg (fun z => Ending.returned (.int .i64 z)) HV.out, HS.out _ 0 0 zq14 zq3 (Nat.sub_self _).symm, kept_set _ _ _ _⟩
     ·go_wp2
      go_ret
      rw [HN.out]
      exact ⟨congrArg (fun z => Ending.returned (.int .i64 z)) HV.out, HS.out _ _ _ (if_neg hcm).symm rfl rfl, kept_set _ _ _ _⟩
    ·have hr := HR.out
     rw [e5, HD.out, rdNum_cons, if_neg h128, Option.map_map] at hr
     have HR2 := zA hr
     clear hr
     have hp : 2 ^ (7 * (i + 1)) = 2 ^ (7 * i) * 128 := by rw [show 7 * (i + 1) = 7 * i + 7 by omega, Nat.pow_add]
     have HP := zA hp
     clear hp
     go_wp2
     go_roundg (5 - (i + 1))
     case measure => omega
     case rel =>
      refine ⟨i + 1, v + x.toNat % 128 * 2 ^ (7 * i), zq3, zq3, zq3, ?_, by go_num, ?_, ⟨?_⟩, rfl⟩
      ·rw [HV.out]
      ·rw [HP.out]
       have : x.toNat % 128 * 2 ^ (7 * i) ≤ 127 * 2 ^ (7 * i) := Nat.mul_le_mul_right _ zq3
       omega
      ·rw [HR2.out, show 5 - (i + 1) = 4 - i by omega, HP.out]
       refine congrArg (fun f => Option.map f _) (funext fun q => ?_)
       simp only [Function.comp]
       rw [Nat.mul_add, ← Nat.mul_assoc, Nat.mul_comm (x.toNat % 128), Nat.add_assoc]
  ·have hltz : ¬ (i : Int) < (r.length : Int) := by omega
   have HN := zA (show numS r bad = (0, r, true) from by
    have hr := HR.out
    rw [List.drop_of_length_le zq3, rdNum_nil] at hr
    unfold numS
    rw [hr]
    rfl)
   go_wp2
   go_ret
   rw [HN.out]
   exact ⟨rfl, ⟨hg0, below_set HB.out hg0, A, c, blk_put (cs := #[.slice A r.length c, .bool bad, f2, f3]) HK.out 1 _ rfl, HC.out, hc⟩, kept_set _ _ _ _⟩
set_option maxRecDepth 100000 in
set_option maxHeartbeats 4000000 in
theorem take_calls (g n : Nat) (r : List Int) (bad : Bool) (f2 f3 : Value) (w0 w : World) (hS : St w0 w g r bad f2 f3) (hl : r.length ≤ 1048576) :
  Calls Try.prog 142 #[.pointer (some ⟨g, 0, none⟩), .int .i64 (n : Int)] w fun e w' => (∃ v, e = .returned v ∧ HelpB.tB.K w0 (takeS n r bad).1 v) ∧ St w0 w' g (takeS n r bad).2.1 (takeS n r bad).2.2 f2 f3 ∧ Kept w w' (fun k => k = g) := by
 obtain ⟨hg0, hB, A, c, hb0, hC, hc⟩ := hS
 have HB := zA hB
 have HK := zA hb0
 have HC := zA hC
 have h0 : w.cell? ⟨g, 0, none⟩ = some (.slice A r.length c) := (blk_cell hb0 0).trans rfl
 have f0 := blk_frozen hb0 0
 have h1 : w.cell? ⟨g, 1, none⟩ = some (.bool bad) := (blk_cell hb0 1).trans rfl
 have f1 := blk_frozen hb0 1
 clear hB hb0 hC
 by_cases hn : n ≤ r.length
 ·have hz : ¬ ((n : Int) > (r.length : Int)) := by omega
  have HN := zA (show takeS n r bad = (r.take n, r.drop n, bad) from if_pos hn)
  have HS := zA (St.cut hg0 HB.out HK.out HC.out hc n hn)
  have HT := zA (show HelpB.tB.K w0 (r.take n) (.slice A n c) from ⟨A, c, by rw [List.length_take, Nat.min_eq_left hn], zq55, by have := Kd.C_take HC.out hn; exact this⟩)
  by_cases hcm : c = n
  ·subst hcm
   go_enter Try.func142, Try.ntmps142
   go_wp2
   go_ret
   rw [HN.out]
   exact ⟨⟨_, rfl, HT.out⟩, HS.out _ 0 0 zq14 zq3 (Nat.sub_self _).symm, kept_set _ _ _ _⟩
  ·go_enter Try.func142, Try.ntmps142
   go_wp2
   go_ret
   rw [HN.out]
   exact ⟨⟨_, rfl, HT.out⟩, HS.out _ _ _ (if_neg hcm).symm rfl rfl, kept_set _ _ _ _⟩
 ·have hz : (n : Int) > (r.length : Int) := by omega
  have HN := zA (show takeS n r bad = ([], r, true) from if_neg hn)
  go_enter Try.func142, Try.ntmps142
  go_wp2
  go_ret
  rw [HN.out]
  exact ⟨⟨_, rfl, none, 0, rfl, Nat.le_refl _, Kd.C_nil _ _⟩, ⟨hg0, below_set HB.out hg0, A, c, blk_put (cs := #[.slice A r.length c, .bool bad, f2, f3]) HK.out 1 _ rfl, HC.out, hc⟩, kept_set _ _ _ _⟩
end Go.Proofs.Ytmgmdnmfalepkaa.DecA

namespace Go.Proofs.Ytmgmdnmfalepkaa.DecB
open Go.RowKit Go.Proofs.YtmgmdnmfalepkaaW.PrintWords Go.Proofs.YtmgmdnmfalepkaaW.PrintMore Go.Proofs.Ytmgmdnmfalepkaa.Kit Go.Proofs.Ytmgmdnmfalepkaa.PKit Go.Proofs.Ytmgmdnmfalepkaa.Ty Go.Proofs.Ytmgmdnmfalepkaa.PDec Go.Proofs.Ytmgmdnmfalepkaa.Build Go.Proofs.Ytmgmdnmfalepkaa.HelpBB Go.Proofs.Ytmgmdnmfalepkaa.DecA
set_option linter.unusedVariables false
abbrev Ls (w0 w : World) (v : Value) (ls : List (List Int)) : Prop := OwnRow (kB.K w0) 33 1 w w0.heap.size v ls
theorem Ls.kept {w0 w W : World} {v : Value} {ls : List (List Int)} {g : Nat} (h : Ls w0 w v ls) (hk : Kept w W (fun k => k = g)) (hne : v.ownBlock ≠ some g) : Ls w0 W v ls := by
 obtain ⟨inner, ho, hr⟩ := h
 refine ⟨inner, own_move ho (fun k hk' => hk.2 k ?_ (fun e => hne (by rw [hk', e]))), hr⟩
 obtain ⟨cells, hc⟩ := own_typed ho k hk'
 exact blk_lt hc
def Rel (n : Nat) (b0 : List Int) (j : Nat) (acc : List (List Int)) (r : List Int) (bad : Bool) : Prop :=
 (bad = false → rdLines 5 n b0 = (rdLines 5 (n - j) r).map fun p => (acc ++ p.1, p.2)) ∧ (bad = true → rdLines 5 n b0 = none)
def lineS (r : List Int) (bad : Bool) : List Int × List Int × Bool := takeS (numS r bad).1 (numS r bad).2.1 (numS r bad).2.2
theorem Rel.step {n : Nat} {b0 : List Int} {j : Nat} {acc : List (List Int)} {r : List Int} {bad : Bool} (h : Rel n b0 j acc r bad) (hj : j < n) : Rel n b0 (j + 1) (acc ++ [(lineS r bad).1]) (lineS r bad).2.1 (lineS r bad).2.2 := by
 obtain ⟨h1, h2⟩ := h
 cases bad with
 | true =>
  have hn : (numS r true).2.2 = true := by
   unfold numS
   cases rdNum 5 r <;> rfl
  have ht : (lineS r true).2.2 = true := by
   unfold lineS takeS
   rw [hn]
   split <;> rfl
  rw [ht]
  exact ⟨fun e => Bool.noConfusion e, fun _ => h2 rfl⟩
 | false =>
  have h1 := h1 rfl
  have e1 : n - j = (n - (j + 1)) + 1 := by omega
  rw [e1] at h1
  have e2 : rdLines 5 (n - (j + 1) + 1) r = (rdLine 5 r).bind fun q => (rdLines 5 (n - (j + 1)) q.2).map fun p => (q.1 :: p.1, p.2) := rfl
  rw [e2] at h1
  unfold rdLine at h1
  unfold lineS numS
  cases hq : rdNum 5 r with
  | none =>
   rw [hq] at h1
   have ht : takeS 0 r true = ([], r, true) := by unfold takeS; rw [if_pos (Nat.zero_le _)]; simp
   simp only [ht]
   exact ⟨fun e => Bool.noConfusion e, fun _ => h1⟩
  | some q =>
   obtain ⟨m, t⟩ := q
   rw [hq] at h1
   simp only
   by_cases hm : m ≤ t.length
   ·have ht : takeS m t false = (t.take m, t.drop m, false) := if_pos hm
    rw [ht]
    refine ⟨fun _ => ?_, fun e => Bool.noConfusion e⟩
    rw [h1, Option.bind_some]
    simp only
    rw [if_pos hm, Option.bind_some, Option.map_map]
    refine congrArg (fun f => Option.map f _) (funext fun q => ?_)
    simp
   ·have ht : takeS m t false = ([], t, true) := if_neg hm
    rw [ht]
    refine ⟨fun e => Bool.noConfusion e, fun _ => ?_⟩
    rw [h1, Option.bind_some]
    simp only
    rw [if_neg hm]
    rfl
theorem numS_sub (r : List Int) (bad : Bool) (hb : ∀ x ∈ r, 0 ≤ x ∧ x ≤ 255) : (∃ m, (numS r bad).2.1 = r.drop m) ∧ (numS r bad).1 < 34359738368 := by
 unfold numS
 cases hq : rdNum 5 r with
 | none => exact ⟨⟨0, rfl⟩, by show (0 : Nat) < 34359738368; omega⟩
 | some q =>
  obtain ⟨v, t⟩ := q
  obtain ⟨e1, m, _, _, _, e2⟩ := rdNum_some 5 r v t hb hq
  exact ⟨⟨m, e2⟩, Nat.lt_of_lt_of_le e1 zq13⟩
theorem takeS_sub (n : Nat) (r : List Int) (bad : Bool) : ∃ m, (takeS n r bad).2.1 = r.drop m := by
 unfold takeS
 split
 ·exact ⟨n, rfl⟩
 ·exact ⟨0, rfl⟩
def End (b r : List Int) : Prop := (∀ x ∈ r, 0 ≤ x ∧ x ≤ 255) ∧ r.length ≤ b.length
theorem End.drop {b r r' : List Int} (h : End b r) (hm : ∃ m, r' = r.drop m) : End b r' := by
 obtain ⟨m, rfl⟩ := hm
 exact ⟨bytes_drop h.1 m, by have := h.2; rw [List.length_drop]; omega⟩
theorem two_row (W : World) (g : Nat) (x1 x2 : Int) (h : W.heap[g]? = some (.cells #[.int .u8 x1, .int .u8 x2] 5 (0, 0))) : Kd.C (Kd.int .u8) W (some ⟨g, 0, none⟩) 2 [x1, x2] := by
 obtain ⟨A, c, e, _, hC⟩ := Kd.R_reads (Kd.R_of_own (xs := [x1, x2]) (h1 := fun _ => rfl) (enc := Value.int .u8) (ok := fun _ => True) (base := 0) (w := W) (e := 5) (v := .slice (some ⟨g, 0, none⟩) 2 2) ⟨rfl, .inr ⟨g, 2, _, rfl, Nat.zero_le _, h, zq14, by simp [maxLen], rfl, rfl⟩⟩ (fun _ _ => trivial))
 obtain rfl : some ⟨g, 0, none⟩ = A := by injection e
 exact hC
theorem head_bad (r : List Int) (h : (numS (numS r false).2.1 (numS r false).2.2).2.2 = true) : rdHead 5 r = none := by
 unfold rdHead
 unfold numS at h
 cases hq : rdNum 5 r with
 | none => rfl
 | some q =>
  rw [hq] at h
  rw [Option.bind_some]
  simp only at h ⊢
  cases hp : rdNum 5 q.2 with
  | none => rfl
  | some p => rw [hp] at h; cases h
theorem head_ok (r : List Int) (h : (numS (numS r false).2.1 (numS r false).2.2).2.2 = false) : rdHead 5 r = if (numS (numS r false).2.1 (numS r false).2.2).1 ≤ 1000 then (rdLines 5 (numS (numS r false).2.1 (numS r false).2.2).1 (numS (numS r false).2.1 (numS r false).2.2).2.1).map fun l => (((numS r false).1 : Int), l.1) else none := by
 unfold rdHead
 unfold numS at h ⊢
 cases hq : rdNum 5 r with
 | none =>
  rw [hq] at h
  simp only at h
  cases hp : rdNum 5 r with
  | none => rw [hp] at h; cases h
  | some p => rw [hq] at hp; cases hp
 | some q =>
  rw [hq] at h
  rw [Option.bind_some]
  simp only at h ⊢
  cases hp : rdNum 5 q.2 with
  | none => rw [hp] at h; cases h
  | some p => rfl
def Found (w0 w' : World) (g : Nat) (b : List Int) (e : Ending) : Prop := match implP b with
 | none => e = .returned (.bool false)
 | some q => e = .returned (.bool true) ∧ ∃ r f3, St w0 w' g r false (.int .i64 q.1) f3 ∧ HelpBB.tBB.K w' q.2 f3
set_option maxRecDepth 100000 in
set_option maxHeartbeats 4000000 in
theorem head_calls (g : Nat) (b : List Int) (w0 w : World) (hS : St w0 w g b false (.int .i64 0) (.slice none 0 0)) (hb : ∀ x ∈ b, 0 ≤ x ∧ x ≤ 255) (hl : b.length ≤ 1048576) :
  Calls Try.prog 103 #[.pointer (some ⟨g, 0, none⟩)] w fun e w' => Found w0 w' g b e ∧ Below w0.heap.size w0 w' := by
 have HS := zA hS
 have HE := zA (show End b b from ⟨hb, Nat.le_refl _⟩)
 have HTK := zA (take_calls g 2 b false _ _ w0 w hS hl)
 clear hS hb
 go_enter Try.func103, Try.ntmps103
 go_wp2_with fail
 go_at_call 142
 refine HTK.out.mono ?_
 rintro e w1 ⟨⟨v1, rfl, hv1⟩, hS1, hk1⟩
 obtain ⟨A1, c1, rfl, hc1, hr1⟩ := hv1
 have HC1 := zA hr1
 have HS1 := zA hS1
 have hsz := HS.out.2.1.size
 clear hc1 hr1
 go_wp2_with fail
 have hrow := two_row (w1.alloc (.cells #[.int .u8 84, .int .u8 71] 5)) w1.heap.size 84 71 (heap_alloc_new w1 _)
 have heq := Try.bytes_Equal (.slice A1 (takeS 2 b false).1.length c1) (.slice (some ⟨w1.heap.size, 0, none⟩) 2 2) (takeS 2 b false).1 [84, 71] (w1.alloc (.cells #[.int .u8 84, .int .u8 71] 5)) (Kd.C_string Try.underlying33 Try.underlying5 Try.underlying9 (Kd.C_below HC1.out (grew_trans HS1.out.2.1 (below_alloc (Below.refl _ _) _)))) (Kd.C_string Try.underlying33 Try.underlying5 Try.underlying9 hrow)
 have hbq : (Go.Lib.bytesOf (takeS 2 b false).1 == Go.Lib.bytesOf [84, 71]) = decide ((takeS 2 b false).1 = [84, 71]) := by
  have := same_bytes (takeS 2 b false).1 [84, 71] (fun x hx => by
   unfold takeS at hx
   split at hx
   ·exact HE.out.1 x (List.mem_of_mem_take hx)
   ·cases hx) (by intro x hx; simp at hx; omega)
  rw [Go.Lib.strOfNums_toList, Go.Lib.strOfNums_toList] at this
  exact this
 rw [hbq] at heq
 clear hbq hrow
 refine heq.mono ?_
 rintro e w2 ⟨rfl, hw2⟩
 have HS2 := zA (show St w0 w2 g (takeS 2 b false).2.1 (takeS 2 b false).2.2 (.int .i64 0) (.slice none 0 0) from by rw [hw2]; exact HS1.out.below (below_alloc (Below.refl _ _) _))
 clear hw2 heq
 by_cases hT : (takeS 2 b false).1 = [84, 71]
 case neg =>
  have HI := zA (show implP b = none from by
   unfold implP
   rw [if_neg]
   intro h
   apply hT
   unfold takeS
   have : 2 ≤ b.length := by have := congrArg List.length h; simp at this; omega
   rw [if_pos this]
   exact h)
  rw [decide_eq_false hT]
  go_wp2
  go_ret
  refine ⟨?_, HS2.out.2.1⟩
  unfold Found
  rw [HI.out]
  exact rfl
 case pos =>
  have h2 : 2 ≤ b.length ∧ b.take 2 = [84, 71] := by
   unfold takeS at hT
   by_cases h : 2 ≤ b.length
   ·rw [if_pos h] at hT; exact ⟨h, hT⟩
   ·rw [if_neg h] at hT; cases hT
  have ht : takeS 2 b false = (b.take 2, b.drop 2, false) := if_pos h2.1
  have HI := zA (show implP b = rdHead 5 (b.drop 2) from if_pos h2.2)
  rw [decide_eq_true hT]
  have hS2 := HS2.out
  rw [ht] at hS2
  have HS3 := zA hS2
  have HE3 := zA (HE.out.drop (r' := b.drop 2) ⟨2, rfl⟩)
  clear ht h2 hT hS2 HS2 HS1 HC1 HTK
  have hbd := zA (head_bad (b.drop 2))
  have hok := zA (head_ok (b.drop 2))
  have q1 := zA (numS_sub (b.drop 2) false HE3.out.1)
  have n1 := zA (number_calls g (b.drop 2) false _ _ w0 w2 HS3.out HE3.out.1 (by have := HE3.out.2; omega))
  generalize hN1 : numS (b.drop 2) false = N1 at hbd hok q1 n1
  have HE4 := zA (HE3.out.drop q1.out.1)
  go_wp2_with fail
  go_at_call 143
  refine n1.out.mono ?_
  rintro e w3 ⟨rfl, hS3, hk3⟩
  have HS4 := zA (hS3.put2 (.int .i64 (N1.1 : Int)))
  obtain ⟨_, _, ca2, fa2, ca3, fa3⟩ := hS3.cell
  have q2 := zA (numS_sub N1.2.1 N1.2.2 HE4.out.1)
  have n2 := zA (number_calls g N1.2.1 N1.2.2 _ _ w0 _ HS4.out HE4.out.1 (by have := HE4.out.2; omega))
  generalize hN2 : numS N1.2.1 N1.2.2 = N2 at hbd hok q2 n2
  have HE5 := zA (HE4.out.drop q2.out.1)
  have hn2 := q2.out.2
  clear hS3 hk3
  go_wp2_with fail
  go_at_call 143
  refine n2.out.mono ?_
  rintro e w4 ⟨rfl, hS5, hk5⟩
  have HS5 := zA hS5
  obtain ⟨cb1, fb1, cb2, fb2, cb3, fb3⟩ := hS5.cell
  clear ca2 fa2 ca3 fa3 hS5 hk5 n1 n2 HS4 HS3 hN1 hN2 HE3 HE4 q1 q2
  obtain ⟨n, r0, bad0⟩ := N2
  have hbd : Aside0 (bad0 = true → rdHead 5 (b.drop 2) = none) := hbd
  have hok : Aside0 (bad0 = false → rdHead 5 (b.drop 2) = if n ≤ 1000 then (rdLines 5 n r0).map fun l => ((N1.1 : Int), l.1) else none) := hok
  have HS5 : Aside0 (St w0 w4 g r0 bad0 (.int .i64 (N1.1 : Int)) (.slice none 0 0)) := HS5
  have HE5 : Aside0 (End b r0) := HE5
  have hn2 : n < 34359738368 := hn2
  have cb1 : w4.cell? ⟨g, 1, none⟩ = some (.bool bad0) := cb1
  cases bad0 with
  | true =>
   go_wp2
   go_ret
   refine ⟨?_, HS5.out.2.1⟩
   unfold Found
   rw [HI.out, hbd.out zq14]
   exact rfl
  | false =>
   by_cases hn : n ≤ 1000
   case neg =>
    have hnz : (n : Int) > 1000 := by omega
    go_wp2
    go_ret
    refine ⟨?_, HS5.out.2.1⟩
    unfold Found
    rw [HI.out, hok.out zq14, if_neg hn]
    exact rfl
   case pos =>
    have hnz : ¬ (n : Int) > 1000 := by omega
    have HI2 := zA (HI.out.trans ((hok.out zq14).trans (if_pos hn)))
    clear hok hbd HI
    go_wp2
    go_loopg [32] n (fun gg s32 wr => ∃ (j : Nat) (acc : List (List Int)) (r : List Int) (bad : Bool) (A3 : Option Addr) (c3 : Nat), j ≤ n ∧ n - j ≤ gg ∧ s32 = .int .i64 (j : Int) ∧ acc.length = j ∧ Aside0 (St w0 wr g r bad (.int .i64 (N1.1 : Int)) (.slice A3 acc.length c3)) ∧ Aside0 (Ls w0 wr (.slice A3 acc.length c3) acc) ∧ Aside0 ((Value.slice A3 acc.length c3).ownBlock ≠ some g) ∧ Aside0 (Rel n r0 j acc r bad) ∧ Aside0 (End b r))
    case atStart => exact ⟨0, [], r0, false, none, 0, zq3, zq3, rfl, rfl, HS5, ⟨⟨[], ⟨rfl, .inl ⟨rfl, rfl⟩⟩, Reps.none _ _⟩⟩, ⟨zq26⟩, ⟨fun _ => by cases rdLines 5 n r0 <;> simp, fun e => Bool.noConfusion e⟩, HE5⟩
    case round =>
     obtain ⟨j, acc, r, bad, A3, c3, hj, hg, rfl, ha, HS6, HL6, HN6, HR6, HE6⟩ := hrel
     have HAL := zA ha
     clear ha
     obtain ⟨d1, e1, d2, e2, d3, e3⟩ := HS6.out.cell
     by_cases hlt : j < n
     ·have hltz : (j : Int) < (n : Int) := by omega
      have q1 := zA (numS_sub r bad HE6.out.1)
      have q1n := q1.out.2
      have HR7 := zA (HR6.out.step hlt)
      have HE7 := zA (show End b (lineS r bad).2.1 from (HE6.out.drop q1.out.1).drop (takeS_sub (numS r bad).1 (numS r bad).2.1 (numS r bad).2.2))
      have hnum : ∀ W, Below wr.heap.size wr W → Calls Try.prog 143 #[.pointer (some ⟨g, 0, none⟩)] W fun e w' => e = .returned (.int .i64 ((numS r bad).1 : Int)) ∧ St w0 w' g (numS r bad).2.1 (numS r bad).2.2 (.int .i64 (N1.1 : Int)) (.slice A3 acc.length c3) ∧ Kept W w' (fun k => k = g) := fun W hW => number_calls g r bad _ _ w0 W (HS6.out.below hW) HE6.out.1 (by have := HE6.out.2; omega)
      have htk : ∀ W, St w0 W g (numS r bad).2.1 (numS r bad).2.2 (.int .i64 (N1.1 : Int)) (.slice A3 acc.length c3) → Calls Try.prog 142 #[.pointer (some ⟨g, 0, none⟩), .int .i64 ((numS r bad).1 : Int)] W fun e w' => (∃ v, e = .returned v ∧ HelpB.tB.K w0 (lineS r bad).1 v) ∧ St w0 w' g (lineS r bad).2.1 (lineS r bad).2.2 (.int .i64 (N1.1 : Int)) (.slice A3 acc.length c3) ∧ Kept W w' (fun k => k = g) := fun W hW => take_calls g (numS r bad).1 (numS r bad).2.1 (numS r bad).2.2 _ _ w0 W hW (by have := (HE6.out.drop q1.out.1).2; omega)
      have HNUM := zA hnum
      have HTK := zA htk
      clear hnum htk
      generalize (numS r bad).1 = m at HNUM HTK q1n
      generalize (numS r bad).2.1 = rn at HNUM HTK
      generalize (numS r bad).2.2 = bn at HNUM HTK
      generalize lineS r bad = L at HR7 HTK HE7
      have HNE : (Value.slice A3 acc.length c3).ownBlock ≠ some g := HN6.out
      go_wp2_with fail
      go_region_law (first | (go_simp; go_at_call 143; refine (HNUM.out _ zq7).mono ?_; rintro e w5 ⟨rfl, hs5, hk5⟩; have HK5 := zA (show Kept wr w5 (fun k => k = g) from (Kept.of_below zq7 _).then_ hk5 (fun _ h => .inl h)); have HS7 := zA hs5; obtain ⟨_, _, _, _, f3c, f3f⟩ := hs5.cell; clear hs5 hk5) | (go_simp; go_at_call 142; refine (HTK.out _ (HS7.out.below zq7)).mono ?_; rintro e w6 ⟨⟨v6, rfl, hv6⟩, hs6, hk6⟩; have HK6 := zA (show Kept wr w6 (fun k => k = g) from (HK5.out.below zq7).then_ hk6 (fun _ h => .inl h)); have HS8 := zA hs6; obtain ⟨_, _, _, _, g3c, g3f⟩ := hs6.cell; have HV6 := zA hv6; obtain ⟨A6, c6, rfl, _, _⟩ := hv6; obtain ⟨_, _, _, _, g4c, g4f⟩ := (HS8.out.below (below_alloc (Below.refl _ _) (.cells #[.slice A6 L.1.length c6] 33))).cell; clear hs6 hk6) | (refine OwnRow.append_step (R := kB.K w0) (w0 := w0) w0.heap.size (by first | rfl | simp [Region.wanted]) (.tmp 38) (.tmp 47) 41 33 (.slice none 0 0) 1 24 (by rfl) Try.underlying41 infoBB rfl zq13 zq3 (.slice A3 acc.length c3) acc L.1 [.slice A6 L.1.length c6] zq33 zq33 ?hp rfl ?h1 ?HO ?HB ?hb (by have := HAL.out; omega) ?_; (case hp => (obtain ⟨Ax, cx, ex, hx1, hx2⟩ := HV6.out; exact ⟨Ax, cx, by rw [ex], hx1, hx2⟩)); (case h1 => intro u hu; rw [List.mem_singleton.1 hu]; rfl); (case HO => exact Ls.kept HL6.out (HK6.out.below zq7) HNE); (case HB => exact below_step HS8.out.2.1 zq7); (case hb => exact (below_step HS8.out.2.1 zq7).size); intro v9 w9 hO9 hB9 hg9 hat9; obtain ⟨A9, c9, rfl, _⟩ := OwnRow.slice_ hO9; have HS9 := zA (St.grown (HS8.out.below zq7) hg9 HNE hB9); have HO9 := zA hO9; have HA9 := zA hat9; have HX9 := zA hg9.size; obtain ⟨_, _, _, _, i3c, i3f⟩ := HS9.out.cell; clear hO9 hB9 hg9 hat9))
      all_goals
       go_wp2
       go_roundg (n - (j + 1))
       case measure => omega
       case rel =>
        have HN9 : (Value.slice A9 (acc ++ [L.1]).length c9).ownBlock ≠ some g := by
         rcases HA9.out with h | ⟨b', h, hb'⟩
         ·rw [h]; exact HNE
         ·rw [h]
          intro e
          injection e with e
          have h1 := HS8.out.lt
          have h2 : w6.heap.size ≤ b' := hb'
          omega
        refine ⟨j + 1, acc ++ [L.1], L.2.1, L.2.2, A9, c9, zq3, zq3, by go_num, by rw [List.length_append, HAL.out]; rfl, ⟨?_⟩, ⟨?_⟩, ⟨HN9⟩, HR7, HE7⟩
        ·have h1 := HS9.out.put3 (.slice A9 (acc ++ [L.1]).length c9)
         rw [List.length_append] at h1 ⊢
         exact h1
        ·have h1 := Ls.kept HO9.out (kept_set w9 g 3 (.slice A9 (acc ++ [L.1]).length c9)) HN9
         rw [List.length_append] at h1 ⊢
         exact h1
     ·have hltz : ¬ (j : Int) < (n : Int) := by omega
      obtain rfl : j = n := by omega
      cases bad with
      | true =>
       go_wp2
       go_ret
       refine ⟨?_, HS6.out.2.1⟩
       unfold Found
       rw [HI2.out, HR6.out.2 zq14]
       exact rfl
      | false =>
       have hr := HR6.out.1 rfl
       rw [Nat.sub_self] at hr
       have e0 : rdLines 5 0 r = some ([], r) := rfl
       rw [e0, Option.map_some, List.append_nil] at hr
       have HR8 := zA (show implP b = some ((N1.1 : Int), acc) from by rw [HI2.out, hr]; rfl)
       clear hr e0
       have hK : HelpBB.tBB.K wr acc (.slice A3 acc.length c3) := by
        obtain ⟨A', c', e', hl', hR'⟩ := OwnRow.reads HL6.out
        exact ⟨A', c', e', hl', ReadsRow.imp_ hR' (Below.refl _ _) (fun p c h => kB.K_below HS6.out.2.1 h)⟩
       have HK := zA hK
       clear hK
       go_wp2
       go_ret
       refine ⟨?_, HS6.out.2.1⟩
       unfold Found
       rw [HR8.out]
       exact ⟨rfl, r, _, HS6.out, HK.out⟩
end Go.Proofs.Ytmgmdnmfalepkaa.DecB
