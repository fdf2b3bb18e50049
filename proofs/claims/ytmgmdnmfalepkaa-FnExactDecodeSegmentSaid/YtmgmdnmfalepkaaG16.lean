/- Parts of the proof (see the row's own text): EncB, SegOk, Decode. -/
import Derived.Test.YtmgmdnmfalepkaaG14
import Derived.Test.YtmgmdnmfalepkaaG6
import Derived.Test.YtmgmdnmfalepkaaG4
import Derived.Test.YtmgmdnmfalepkaaG12
import Derived.Test.YtmgmdnmfalepkaaG15
import Derived.Deep.QuietTactic
import Derived.BigQuiet
import Derived.Test.YtmgmdnmfalepkaaG13
namespace Go.Proofs.Ytmgmdnmfalepkaa.EncB
open Go.RowKit Go.Proofs.YtmgmdnmfalepkaaW.PrintWords Go.Proofs.YtmgmdnmfalepkaaW.PrintMore Go.Proofs.Ytmgmdnmfalepkaa.Kit Go.Proofs.Ytmgmdnmfalepkaa.PKit Go.Proofs.Ytmgmdnmfalepkaa.Ty Go.Proofs.Ytmgmdnmfalepkaa.PSeg Go.Proofs.Ytmgmdnmfalepkaa.PEnc Go.Proofs.Ytmgmdnmfalepkaa.Build Go.Proofs.Ytmgmdnmfalepkaa.EncA Go.Proofs.Ytmgmdnmfalepkaa.HelpBB
set_option linter.unusedVariables false
theorem nums1 (a : Nat) : EncA.nums [a] = varint a := by simp [EncA.nums]
theorem nums2 (a b : Nat) : EncA.nums [a, b] = varint a ++ varint b := by simp [EncA.nums]
def lastK (K : List Int) (j : Nat) : Int := if j = 0 then 0 else K.getD (j - 1) 0
def lastP (b : Int) (P : List Int) (i : Nat) : Int := if i = 0 then b else P.getD (i - 1) 0
theorem gap_last (K : List Int) (j : Nat) : gap K j = K.getD j 0 - lastK K j := by
  unfold gap lastK
  by_cases h : j = 0
  · subst h; rw [if_pos rfl, if_pos rfl]; omega
  · rw [if_neg h, if_neg h]
theorem del_last (b : Int) (P : List Int) (i : Nat) : del b P i = P.getD i 0 - lastP b P i := by
  unfold del lastP
  by_cases h : i = 0
  · subst h; rw [if_pos rfl, if_pos rfl]
  · rw [if_neg h, if_neg h]
theorem Enc.below {w0 w : World} {ge : Nat} {No : Nat → Prop} {o : List Int} (h : Enc w0 w ge No o) : Below w0.heap.size w0 w := h.2.1
theorem one_number (ge : Nat) (x : Int) (a : Nat) (o : List Int) (w0 w : World) (h : Enc w0 w ge (fun _ => False) o) (hx : x = (a : Int)) (ha : a < 4611686018427387904) (ho : o.length ≤ 1099511627776) :
    Calls Try.prog 144 #[.pointer (some ⟨ge, 0, none⟩), .slice (some ⟨w.heap.size, 0, none⟩) 1 1] (w.alloc (.cells #[.int .i64 x] 3)) fun e w' => e = .returned (.tuple #[]) ∧ Enc w0 w' ge (fun _ => False) (o ++ varint a) := by
  subst hx
  obtain ⟨h1, h2⟩ := h.list (.cells #[.int .i64 (a : Int)] 3)
  refine (numbers_calls ge w.heap.size o [a] w0 _ h1 ((heap_alloc_new w _).trans rfl) h2 (by simpa using ha) (by simp) ho).mono ?_
  rintro e w' ⟨rfl, h3⟩
  rw [nums1] at h3
  exact ⟨rfl, h3.mono (fun _ h => h.elim)⟩
theorem two_numbers (ge : Nat) (x y : Int) (a b : Nat) (o : List Int) (w0 w : World) (h : Enc w0 w ge (fun _ => False) o) (hx : x = (a : Int)) (hy : y = (b : Int)) (ha : a < 4611686018427387904) (hb : b < 4611686018427387904) (ho : o.length ≤ 1099511627776) :
    Calls Try.prog 144 #[.pointer (some ⟨ge, 0, none⟩), .slice (some ⟨w.heap.size, 0, none⟩) 2 2] (w.alloc (.cells #[.int .i64 x, .int .i64 y] 3)) fun e w' => e = .returned (.tuple #[]) ∧ Enc w0 w' ge (fun _ => False) (o ++ (varint a ++ varint b)) := by
  subst hx hy
  obtain ⟨h1, h2⟩ := h.list (.cells #[.int .i64 (a : Int), .int .i64 (b : Int)] 3)
  refine (numbers_calls ge w.heap.size o [a, b] w0 _ h1 ((heap_alloc_new w _).trans rfl) h2 (by simpa using ⟨ha, hb⟩) (by simp) ho).mono ?_
  rintro e w' ⟨rfl, h3⟩
  rw [nums2] at h3
  exact ⟨rfl, h3.mono (fun _ h => h.elim)⟩
theorem four_row (W : World) (g : Nat) (x1 x2 x3 x4 : Int) (h : W.heap[g]? = some (.cells #[.int .u8 x1, .int .u8 x2, .int .u8 x3, .int .u8 x4] 5 (0, 0))) : Kd.C (Kd.int .u8) W (some ⟨g, 0, none⟩) 4 [x1, x2, x3, x4] := by
  obtain ⟨A, c, e, _, hC⟩ := Kd.R_reads (Kd.R_of_own (xs := [x1, x2, x3, x4]) (h1 := fun _ => rfl) (enc := Value.int .u8) (ok := fun _ => True) (base := 0) (w := W) (e := 5) (v := .slice (some ⟨g, 0, none⟩) 4 4) ⟨rfl, .inr ⟨g, 4, _, rfl, Nat.zero_le _, h, by simp, by simp [maxLen], rfl, rfl⟩⟩ (fun _ _ => trivial))
  obtain rfl : some ⟨g, 0, none⟩ = A := by injection e
  exact hC
set_option maxRecDepth 100000 in
set_option maxHeartbeats 4000000 in
theorem encoded_calls (bn : Nat) (ls : List (List Int)) (K : List Int) (Ps : List (List Int)) (A1 A2 A3 : Option Addr) (c1 c2 c3 : Nat) (w : World) (h1 : HelpBB.tBB.K w ls (.slice A1 ls.length c1)) (h2 : HelpI.tI.K w K (.slice A2 K.length c2)) (h3 : HelpII.tII.K w Ps (.slice A3 Ps.length c3))
    (hok : EncOk ((bn : Int), ls, K, Ps)) (hby : Bytes ls) :
    Calls Try.prog 105 #[.agg #[.int .i64 (bn : Int), .slice A1 ls.length c1, .slice A2 K.length c2, .slice A3 Ps.length c3]] w fun e w' => ∃ v', e = .returned v' ∧ HelpB.tB.M w' w.heap.size (fun _ => True) (code ((bn : Int), ls, K, Ps)) v' ∧ Grew w w' := by
  have huI := Try.underlying50
  have huE := Try.underlying154
  have hb1 : (bn : Int) ≤ 1000 := hok.b1
  have hl1 : ls.length ≤ 1000 := hok.l1
  have ht1 : totalB ls ≤ 20000 := hok.t1
  have hk1 : K.length ≤ 20000 := hok.k1
  have HPK := Aside0.mk (show Ps.length = K.length from hok.pk)
  obtain ⟨B1, d1, e1, hc1, hr1⟩ := h1
  obtain ⟨rfl, rfl⟩ : A1 = B1 ∧ c1 = d1 := by injection e1 with q1 q2 q3; exact ⟨q1, q3⟩
  have R1 := Aside0.mk hr1
  clear hc1 hr1 e1
  obtain ⟨B2, d2, e2, hc2, hr2⟩ := h2
  obtain ⟨rfl, rfl⟩ : A2 = B2 ∧ c2 = d2 := by injection e2 with q1 q2 q3; exact ⟨q1, q3⟩
  have R2 := Aside0.mk hr2
  clear hc2 hr2 e2
  obtain ⟨B3, d3, e3, hc3, hr3⟩ := h3
  obtain ⟨rfl, rfl⟩ : A3 = B3 ∧ c3 = d3 := by injection e3 with q1 q2 q3; exact ⟨q1, q3⟩
  have R3 := Aside0.mk hr3
  clear hc3 hr3 e3
  have HOK := Aside0.mk hok
  have HBY := Aside0.mk hby
  clear hok hby
  have HHL := Aside0.mk (head_len (b := (bn : Int)) (ls := ls) hb1 hl1)
  go_enter Try.func105, Try.ntmps105
  go_wp2_with (first | ((with_reducible refine gate_dst (N := 1) rfl ?_); refine box_event ?hg (N := 1) ?hd (cs := #[.int .i64 (bn : Int), .slice A1 ls.length c1, .slice A2 K.length c2, .slice A3 Ps.length c3]) (t := 50) ?hr ?_; (case hd => rfl); (case hg => rfl); (case hr => first | (go_simp; done) | (go_simp; rfl)); intro gs hg_ w1 hbx hbb; have BKs := Aside0.mk hbx; have HB := Aside0.mk hbb; have GS := Aside0.mk (show w.heap.size ≤ gs from Nat.le_of_eq hg_.symm); clear hg_; have hc0 : w1.cell? ⟨gs, 0, none⟩ = some (.int .i64 (bn : Int)) := (blk_cell hbx 0).trans rfl; have fhc0 := blk_frozen hbx 0; have hc1 : w1.cell? ⟨gs, 1, none⟩ = some (.slice A1 ls.length c1) := (blk_cell hbx 1).trans rfl; have fhc1 := blk_frozen hbx 1; have hc2 : w1.cell? ⟨gs, 2, none⟩ = some (.slice A2 K.length c2) := (blk_cell hbx 2).trans rfl; have fhc2 := blk_frozen hbx 2; have hc3 : w1.cell? ⟨gs, 3, none⟩ = some (.slice A3 Ps.length c3) := (blk_cell hbx 3).trans rfl; have fhc3 := blk_frozen hbx 3; clear hbx hbb) | ((with_reducible refine gate_dst (N := 15) rfl ?_); refine box_event ?hg (N := 15) ?hd (cs := #[.slice (some ⟨w1.heap.size, 0, none⟩) 2 2]) (t := 154) ?hr ?_; (case hd => rfl); (case hg => rfl); (case hr => first | (go_simp; done) | (go_simp; rfl)); intro ge hg_ w3 hbx hbb; have BKe := Aside0.mk hbx; have HB3 := Aside0.mk hbb; have GE := Aside0.mk (show w1.heap.size + 1 ≤ ge from by rw [hg_]; simp); clear hg_; have hz0 := blk_below (w := w1.alloc (.cells #[.int .u8 84, .int .u8 71] 5)) (g := gs) (blk_alloc BKs.out _) hbb; have hd0 : w3.cell? ⟨gs, 0, none⟩ = some (.int .i64 (bn : Int)) := (blk_cell hz0 0).trans rfl; have fhd0 := blk_frozen hz0 0; have hd1 : w3.cell? ⟨gs, 1, none⟩ = some (.slice A1 ls.length c1) := (blk_cell hz0 1).trans rfl; have fhd1 := blk_frozen hz0 1; have hd2 : w3.cell? ⟨gs, 2, none⟩ = some (.slice A2 K.length c2) := (blk_cell hz0 2).trans rfl; have fhd2 := blk_frozen hz0 2; have hd3 : w3.cell? ⟨gs, 3, none⟩ = some (.slice A3 Ps.length c3) := (blk_cell hz0 3).trans rfl; have fhd3 := blk_frozen hz0 3; clear hbx hbb))
  have HG := Aside0.mk (show w.heap.size ≤ w1.heap.size from HB.out.size)
  have hrow : w3.heap[w1.heap.size]? = some (.cells #[.int .u8 84, .int .u8 71] 5 (0, 0)) := blk_below (heap_alloc_new w1 _) HB3.out
  have hE0 : Enc w1 w3 ge (fun _ => False) [84, 71] := by
    have hge := GE.out
    exact ⟨by omega, grew_trans (below_alloc (Below.refl _ _) _) HB3.out, some ⟨w1.heap.size, 0, none⟩, 2, BKe.out, Kd.R_of_own (xs := [(84 : Int), 71]) ⟨rfl, .inr ⟨w1.heap.size, 2, #[.int .u8 84, .int .u8 71], rfl, Nat.le_refl _, hrow, by simp, by simp [maxLen], rfl, rfl⟩⟩ (fun k hk => ⟨fun e => by have e1 : w1.heap.size = k := (by simpa [Value.ownBlock] using hk); omega, id⟩)⟩
  clear hrow
  refine (two_numbers ge _ _ bn ls.length [84, 71] w1 w3 hE0 rfl rfl (by omega) (by omega) (by simp)).mono ?_
  rintro e w4 ⟨rfl, hE4⟩
  have eh : [(84 : Int), 71] ++ (varint bn ++ varint ls.length) = head (bn : Int) ls := by simp [head]
  rw [eh] at hE4
  clear eh hE0
  have hbs := blk_below (g := gs) BKs.out (Enc.below hE4)
  have h40 : w4.cell? ⟨gs, 0, none⟩ = some (.int .i64 (bn : Int)) := (blk_cell hbs 0).trans rfl; have fh40 := blk_frozen hbs 0; have h41 : w4.cell? ⟨gs, 1, none⟩ = some (.slice A1 ls.length c1) := (blk_cell hbs 1).trans rfl; have fh41 := blk_frozen hbs 1; have h42 : w4.cell? ⟨gs, 2, none⟩ = some (.slice A2 K.length c2) := (blk_cell hbs 2).trans rfl; have fh42 := blk_frozen hbs 2; have h43 : w4.cell? ⟨gs, 3, none⟩ = some (.slice A3 Ps.length c3) := (blk_cell hbs 3).trans rfl; have fh43 := blk_frozen hbs 3
  clear hbs
  go_wp2
  go_loopg [27] ls.length (fun gg s27 wr => ∃ i : Nat, i ≤ ls.length ∧ ls.length - i ≤ gg ∧ s27 = .int .i64 i ∧ Aside0 (Enc w1 wr ge (fun _ => False) (head (bn : Int) ls ++ flat (line ls) i)))
  case atStart => exact ⟨0, by omega, by omega, rfl, ⟨by have e : flat (line ls) 0 = [] := rfl; rw [e, List.append_nil]; exact hE4⟩⟩
  case round =>
    clear hE4
    obtain ⟨i, hi, hg, rfl, HE⟩ := hrel
    have HW := Aside0.mk (grew_trans HB.out (Enc.below HE.out))
    by_cases hlt : i < ls.length
    · have hltz : (i : Int) < (ls.length : Int) := by omega
      obtain ⟨ad, u, rfl, hcell0, hK⟩ := get_one (d := kB) rfl R1.out [] i hlt
      obtain ⟨A', c', e', hc', hr'⟩ := hK
      obtain rfl : u = .slice A' (ls.getD i []).length c' := by injection e'
      have hcell : wr.cell? (ad.add i) = some (.slice A' (ls.getD i []).length c') := (HW.out.cell (World.block_lt_of_cell? w _ hcell0)).trans hcell0
      have HL := Aside0.mk (Kd.C_below hr' HB.out)
      have hgl := getD_len ls i
      have hll := lines_len HOK.out i (by show i ≤ ls.length; omega)
      have hll' : (head (bn : Int) ls ++ flat (line ls) i).length ≤ 1099511627776 := by have h1 := HHL.out; have h2 : (flat (line ls) i).length ≤ 20010000 := hll; rw [List.length_append]; omega
      have hnext : head (bn : Int) ls ++ flat (line ls) (i + 1) = head (bn : Int) ls ++ flat (line ls) i ++ (varint (ls.getD i []).length ++ ls.getD i []) := by rw [flat_succ, ← List.append_assoc]; rfl
      have HNX := Aside0.mk hnext
      clear hr' e' hcell0 hll hnext
      generalize hx : ls.getD i [] = l at hcell HL hgl HNX hc'
      clear hx
      have hby := bytes_calls ge _ A' c' l w1 wr HE.out HL.out (by omega) hll'
      go_wp2_with (go_at_call 145; refine hby.mono ?_; rintro e w5 ⟨rfl, hE5⟩)
      go_roundg (ls.length - (i + 1))
      case measure => omega
      case rel => exact ⟨i + 1, by omega, by omega, by go_num, ⟨by rw [HNX.out]; exact hE5⟩⟩
    · have hltz : ¬ (i : Int) < (ls.length : Int) := by omega
      obtain rfl : i = ls.length := by omega
      rename World => w6
      have hll := lines_len HOK.out ls.length (Nat.le_refl _)
      have HLL := Aside0.mk (show (head (bn : Int) ls ++ flat (line ls) ls.length).length ≤ 20010020 from by have h1 := HHL.out; have h2 : (flat (line ls) ls.length).length ≤ 20010000 := hll; rw [List.length_append]; omega)
      clear hll
      have hbs := blk_below (g := gs) BKs.out (Enc.below HE.out)
      have h60 : w6.cell? ⟨gs, 0, none⟩ = some (.int .i64 (bn : Int)) := (blk_cell hbs 0).trans rfl; have fh60 := blk_frozen hbs 0; have h61 : w6.cell? ⟨gs, 1, none⟩ = some (.slice A1 ls.length c1) := (blk_cell hbs 1).trans rfl; have fh61 := blk_frozen hbs 1; have h62 : w6.cell? ⟨gs, 2, none⟩ = some (.slice A2 K.length c2) := (blk_cell hbs 2).trans rfl; have fh62 := blk_frozen hbs 2; have h63 : w6.cell? ⟨gs, 3, none⟩ = some (.slice A3 Ps.length c3) := (blk_cell hbs 3).trans rfl; have fh63 := blk_frozen hbs 3
      clear hbs
      go_wp2_with (go_at_call 144; refine (one_number ge _ K.length _ w1 w6 HE.out rfl (by omega) (by have := HLL.out; omega)).mono ?_; rintro e w7 ⟨rfl, hE7⟩; have hbs := blk_below (g := gs) BKs.out (Enc.below hE7); have h70 : w7.cell? ⟨gs, 0, none⟩ = some (.int .i64 (bn : Int)) := (blk_cell hbs 0).trans rfl; have fh70 := blk_frozen hbs 0; have h71 : w7.cell? ⟨gs, 1, none⟩ = some (.slice A1 ls.length c1) := (blk_cell hbs 1).trans rfl; have fh71 := blk_frozen hbs 1; have h72 : w7.cell? ⟨gs, 2, none⟩ = some (.slice A2 K.length c2) := (blk_cell hbs 2).trans rfl; have fh72 := blk_frozen hbs 2; have h73 : w7.cell? ⟨gs, 3, none⟩ = some (.slice A3 Ps.length c3) := (blk_cell hbs 3).trans rfl; have fh73 := blk_frozen hbs 3; clear hbs)
      have hOl : (head (bn : Int) ls ++ flat (line ls) ls.length ++ varint K.length).length ≤ 20010040 := by have h1 := HLL.out; have h2 := varint_len10 (n := K.length) (by omega); rw [List.length_append]; omega
      have HCODE := Aside0.mk (show body ((bn : Int), ls, K, Ps) = head (bn : Int) ls ++ flat (line ls) ls.length ++ varint K.length ++ flat (grp (bn : Int) K Ps) K.length from rfl)
      generalize hO : head (bn : Int) ls ++ flat (line ls) ls.length ++ varint K.length = O at hE7 hOl HCODE
      clear hO
      go_loopg [6, 44] K.length (fun gg s6 s44 wr => ∃ j : Nat, j ≤ K.length ∧ K.length - j ≤ gg ∧ s6 = .int .i64 (lastK K j) ∧ s44 = .int .i64 j ∧ Aside0 (Enc w1 wr ge (fun _ => False) (O ++ flat (grp (bn : Int) K Ps) j)))
      case atStart => exact ⟨0, by omega, by omega, rfl, rfl, ⟨by have e : flat (grp (bn : Int) K Ps) 0 = [] := rfl; rw [e, List.append_nil]; exact hE7⟩⟩
      case round =>
        clear hE7 HE HW
        rename World => w8
        obtain ⟨j, hj, hg, rfl, rfl, HE⟩ := hrel
        have HW := Aside0.mk (grew_trans HB.out (Enc.below HE.out))
        have hgr := grps_len HOK.out j (by show j ≤ K.length; omega)
        have hGl : (O ++ flat (grp (bn : Int) K Ps) j).length ≤ 300000000 := by have h2 : (flat (grp (bn : Int) K Ps) j).length ≤ 180360000 := hgr; rw [List.length_append]; omega
        clear hgr
        by_cases hlt : j < K.length
        · have hltz : (j : Int) < (K.length : Int) := by omega
          have hltp : j < Ps.length := by have := HPK.out; omega
          have hltpz : (j : Int) < (Ps.length : Int) := by omega
          obtain ⟨ad2, u2, rfl, hc20, hK2⟩ := get_one (d := Kd.int .i64) rfl R2.out 0 j hlt
          obtain rfl : u2 = .int .i64 (K.getD j 0) := by have h : [u2] = [Value.int .i64 (K.getD j 0)] := hK2; injection h
          have hc2 : w8.cell? (ad2.add j) = some (.int .i64 (K.getD j 0)) := (HW.out.cell (World.block_lt_of_cell? w _ hc20)).trans hc20
          obtain ⟨ad3, u3, rfl, hc30, hK3⟩ := get_one (d := HelpII.kI) rfl R3.out [] j hltp
          obtain ⟨A', c', e', hc', hr'⟩ := hK3
          obtain rfl : u3 = .slice A' (Ps.getD j []).length c' := by injection e'
          have hc3 : w8.cell? (ad3.add j) = some (.slice A' (Ps.getD j []).length c') := (HW.out.cell (World.block_lt_of_cell? w _ hc30)).trans hc30
          have HC3 := Aside0.mk hc30
          have HLP := Aside0.mk hr'
          have hp1 : (Ps.getD j []).length ≤ 1000 := HOK.out.p1 j
          obtain ⟨g0, g1⟩ := HOK.out.g1 j hlt
          have g0 : 0 ≤ gap K j := g0
          have g1 : gap K j ≤ 16777216 := g1
          have HD := Aside0.mk (show ∀ i, i < (Ps.getD j []).length → 0 ≤ del (bn : Int) (Ps.getD j []) i ∧ del (bn : Int) (Ps.getD j []) i ≤ 1000 from fun i hi => HOK.out.d1 j i hlt hi)
          have HGRP := Aside0.mk (show O ++ flat (grp (bn : Int) K Ps) (j + 1) = O ++ flat (grp (bn : Int) K Ps) j ++ (varint (gap K j).toNat ++ varint (Ps.getD j []).length) ++ dels (bn : Int) (Ps.getD j []) (Ps.getD j []).length from by rw [flat_succ, ← List.append_assoc, ← List.append_assoc]; show _ ++ (varint _ ++ varint _ ++ dels _ _ _) = _; simp only [List.append_assoc])
          have HLK := Aside0.mk (show lastK K (j + 1) = K.getD j 0 from by simp [lastK])
          have hgl := gap_last K j
          clear hr' e' hc' hc20 hc30
          obtain ⟨g, hgn⟩ : ∃ g : Nat, gap K j = (g : Int) := ⟨(gap K j).toNat, by omega⟩
          rw [hgn] at g0 g1 hgl HGRP
          rw [Int.toNat_natCast] at HGRP
          clear hgn
          generalize hO2 : O ++ flat (grp (bn : Int) K Ps) j = O2 at HE hGl HGRP
          clear hO2
          generalize hkj : K.getD j 0 = kj at hc2 hgl HLK
          clear hkj
          have hgl2 : 0 ≤ kj - lastK K j ∧ kj - lastK K j ≤ 16777216 := by omega
          generalize hlk : lastK K j = lk at hgl hgl2
          clear hlk
          generalize hP : Ps.getD j [] = P at hc3 HC3 HLP hp1 HD HGRP
          clear hP
          have h2n := two_numbers ge (kj - lk) (P.length : Int) g P.length O2 w1 w8 HE.out (by omega) rfl (by omega) (by omega) (by omega)
          have hbs := blk_below (g := gs) BKs.out (Enc.below HE.out)
          have h80 : w8.cell? ⟨gs, 0, none⟩ = some (.int .i64 (bn : Int)) := (blk_cell hbs 0).trans rfl; have fh80 := blk_frozen hbs 0; have h81 : w8.cell? ⟨gs, 1, none⟩ = some (.slice A1 ls.length c1) := (blk_cell hbs 1).trans rfl; have fh81 := blk_frozen hbs 1; have h82 : w8.cell? ⟨gs, 2, none⟩ = some (.slice (some ad2) K.length c2) := (blk_cell hbs 2).trans rfl; have fh82 := blk_frozen hbs 2; have h83 : w8.cell? ⟨gs, 3, none⟩ = some (.slice (some ad3) Ps.length c3) := (blk_cell hbs 3).trans rfl; have fh83 := blk_frozen hbs 3
          clear hbs
          go_wp2_with (go_at_call 144; refine h2n.mono ?_; rintro e w9 ⟨rfl, hE9⟩; have hbs := blk_below (g := gs) BKs.out (Enc.below hE9); have h90 : w9.cell? ⟨gs, 0, none⟩ = some (.int .i64 (bn : Int)) := (blk_cell hbs 0).trans rfl; have fh90 := blk_frozen hbs 0; have h91 : w9.cell? ⟨gs, 1, none⟩ = some (.slice A1 ls.length c1) := (blk_cell hbs 1).trans rfl; have fh91 := blk_frozen hbs 1; have h92 : w9.cell? ⟨gs, 2, none⟩ = some (.slice (some ad2) K.length c2) := (blk_cell hbs 2).trans rfl; have fh92 := blk_frozen hbs 2; have h93 : w9.cell? ⟨gs, 3, none⟩ = some (.slice (some ad3) Ps.length c3) := (blk_cell hbs 3).trans rfl; have fh93 := blk_frozen hbs 3; clear hbs; have hc9 : w9.cell? (ad3.add j) = some (.slice A' P.length c') := ((grew_trans HB.out (Enc.below hE9)).cell (World.block_lt_of_cell? w _ HC3.out)).trans HC3.out)
          have hl9 : (O2 ++ (varint g ++ varint P.length)).length ≤ 300000020 := by have h1 := varint_len10 (n := g) (by omega); have h2 := varint_len10 (n := P.length) (by omega); simp only [List.length_append]; omega
          generalize hO3 : O2 ++ (varint g ++ varint P.length) = O3 at hE9 hl9 HGRP
          clear hO3
          go_loopg [9, 70] P.length (fun gg s9 s70 wr => ∃ i : Nat, i ≤ P.length ∧ P.length - i ≤ gg ∧ s9 = .int .i64 (lastP (bn : Int) P i) ∧ s70 = .int .i64 i ∧ Aside0 (Enc w1 wr ge (fun _ => False) (O3 ++ dels (bn : Int) P i)))
          case atStart => exact ⟨0, by omega, by omega, rfl, rfl, ⟨by have e : dels (bn : Int) P 0 = [] := rfl; rw [e, List.append_nil]; exact hE9⟩⟩
          case round =>
            clear hE9
            rename World => wi
            obtain ⟨i, hi, hgi, rfl, rfl, HEi⟩ := hrel
            by_cases hli : i < P.length
            · have hliz : (i : Int) < (P.length : Int) := by omega
              obtain ⟨ad4, u4, rfl, hc40, hK4⟩ := get_one (d := Kd.int .i64) rfl HLP.out 0 i hli
              obtain rfl : u4 = .int .i64 (P.getD i 0) := by have h : [u4] = [Value.int .i64 (P.getD i 0)] := hK4; injection h
              have hc4 : wi.cell? (ad4.add i) = some (.int .i64 (P.getD i 0)) := ((grew_trans HB.out (Enc.below HEi.out)).cell (World.block_lt_of_cell? w _ hc40)).trans hc40
              obtain ⟨d0, d1⟩ := HD.out i hli
              have hdl := del_last (bn : Int) P i
              have hdn : dels (bn : Int) P (i + 1) = dels (bn : Int) P i ++ varint (del (bn : Int) P i).toNat := flat_succ _ _
              have HLP2 := Aside0.mk (show lastP (bn : Int) P (i + 1) = P.getD i 0 from by simp [lastP])
              have hdll := dels_len (b := (bn : Int)) (P := P) (n := i) (fun q hq => (HD.out q (by omega)).2)
              obtain ⟨g', hgn'⟩ : ∃ g : Nat, del (bn : Int) P i = (g : Int) := ⟨(del (bn : Int) P i).toNat, by omega⟩
              rw [hgn'] at d0 d1 hdl hdn
              rw [Int.toNat_natCast] at hdn
              have HDN := Aside0.mk hdn
              clear hdn hgn' hc40
              have hdl2 : 0 ≤ P.getD i 0 - lastP (bn : Int) P i ∧ P.getD i 0 - lastP (bn : Int) P i ≤ 1000 := by omega
              generalize hxi : P.getD i 0 = xi at hc4 hdl hdl2 HLP2
              clear hxi
              generalize hlp : lastP (bn : Int) P i = lp at hdl hdl2
              clear hlp
              have h1n := one_number ge (xi - lp) g' (O3 ++ dels (bn : Int) P i) w1 wi HEi.out (by omega) (by omega) (by rw [List.length_append]; omega)
              go_wp2_with (go_at_call 144; refine h1n.mono ?_; rintro e w9' ⟨rfl, hE9⟩)
              go_roundg (P.length - (i + 1))
              case measure => omega
              case rel => exact ⟨i + 1, by omega, by omega, by rw [HLP2.out], by go_num, ⟨by rw [HDN.out, ← List.append_assoc]; exact hE9⟩⟩
            · have hliz : ¬ (i : Int) < (P.length : Int) := by omega
              obtain rfl : i = P.length := by omega
              go_wp2
              go_roundg (K.length - (j + 1))
              case measure => omega
              case rel => exact ⟨j + 1, by omega, by omega, by rw [HLK.out], by go_num, ⟨by rw [HGRP.out]; exact HEi.out⟩⟩
        · have hltz : ¬ (j : Int) < (K.length : Int) := by omega
          obtain rfl : j = K.length := by omega
          have hcode := HCODE.out
          have hEl := HE.out
          rw [← hcode] at hEl hGl
          clear hcode HCODE HE
          have hbyt := body_bytes ((bn : Int), ls, K, Ps) HBY.out
          have HCD := Aside0.mk (show code ((bn : Int), ls, K, Ps) = body ((bn : Int), ls, K, Ps) ++ four (sum (body ((bn : Int), ls, K, Ps))) from rfl)
          generalize hbd : body ((bn : Int), ls, K, Ps) = bd at hEl hGl hbyt HCD
          clear hbd
          obtain ⟨hge0, hBe, Ao, co, hbe, hRe⟩ := hEl
          obtain ⟨Ax, cx, ex, hcx, hCx⟩ := Kd.R_reads hRe
          obtain ⟨rfl, rfl⟩ : Ao = Ax ∧ co = cx := by injection ex with q1 q2 q3; exact ⟨q1, q3⟩
          have hsum := sum_calls Ao co bd w8 hCx hbyt (by omega)
          have hcg : w8.cell? ⟨ge, 0, none⟩ = some (.slice Ao bd.length co) := (blk_cell hbe 0).trans rfl
          have hfg := blk_frozen hbe 0
          have HRE := Aside0.mk (Kd.R_mono hRe (ok' := fun _ => True) (fun _ _ => trivial))
          have HBE := Aside0.mk hBe
          have HSL := Aside0.mk (sum_lt bd)
          clear hCx hRe hBe hbe hbyt ex hcx
          generalize hss : sum bd = hs at hsum HCD HSL
          clear hss
          go_wp2_with (first | (go_at_call 146; refine hsum.mono ?_; rintro e w' ⟨rfl, hw_⟩; subst w') | (at_builtin; refine Kd.R_append_rows (Kd.int .u8) (Rr := (Kd.int .u8).K (w8.alloc _)) (w0 := w1) w1.heap.size rfl (.tmp 91) (.tmp 103) 33 5 (.int .u8 0) 1 rfl Try.underlying33 infoB rfl (by decide) (by decide) (.slice Ao bd.length co) bd _ (some ⟨w8.heap.size, 0, none⟩) 4 4 (fun _ => True) (fun _ => False) rfl rfl (Kd.R_alloc HRE.out _) (four_row _ w8.heap.size _ _ _ _ (heap_alloc_new w8 _)) (fun x cs h => h) (fun _ h => h.elim) (fun _ _ => trivial) (below_alloc HBE.out _) (by have := HBE.out.size; simp; omega) (by omega) ?_; rintro v1 w11 hR1 hB1 hg1 hat1))
          go_ret
          refine ⟨v1, rfl, ?_, grew_trans HB.out hB1⟩
          rw [HCD.out]
          have hsl := HSL.out
          have hR2 : Kd.R (Kd.int .u8) 5 w11 w1.heap.size (fun _ => True) v1 (bd ++ four hs) := by
            refine cast (congrArg (fun q => Kd.R (Kd.int .u8) 5 w11 w1.heap.size (fun _ => True) v1 (bd ++ q)) ?_) hR1
            unfold four
            congr 1 <;> first | rfl | omega | skip
          exact Kd.R_lower hR2 HG.out
end Go.Proofs.Ytmgmdnmfalepkaa.EncB

namespace Go.Proofs.Ytmgmdnmfalepkaa.SegOk
open Go.RowKit Go.Proofs.YtmgmdnmfalepkaaW.PrintWords Go.Proofs.YtmgmdnmfalepkaaW.PrintMore Go.Proofs.Ytmgmdnmfalepkaa.Kit Go.Proofs.Ytmgmdnmfalepkaa.PKit Go.Proofs.Ytmgmdnmfalepkaa.Ty Go.Proofs.Ytmgmdnmfalepkaa.PSeg Go.Proofs.Ytmgmdnmfalepkaa.PEnc Go.Proofs.Ytmgmdnmfalepkaa.Build Go.Proofs.Ytmgmdnmfalepkaa.EncA Go.Proofs.Ytmgmdnmfalepkaa.HelpBB
set_option linter.unusedVariables false
end Go.Proofs.Ytmgmdnmfalepkaa.SegOk

namespace Go.Proofs.Ytmgmdnmfalepkaa.Decode
open Go.RowKit Go.Proofs.YtmgmdnmfalepkaaW.PrintWords Go.Proofs.YtmgmdnmfalepkaaW.PrintMore Go.Proofs.Ytmgmdnmfalepkaa.Kit Go.Proofs.Ytmgmdnmfalepkaa.PKit Go.Proofs.Ytmgmdnmfalepkaa.Ty Go.Proofs.Ytmgmdnmfalepkaa.PSeg Go.Proofs.Ytmgmdnmfalepkaa.PEnc Go.Proofs.Ytmgmdnmfalepkaa.PDec Go.Proofs.Ytmgmdnmfalepkaa.Build Go.Proofs.Ytmgmdnmfalepkaa.EncB Go.Proofs.Ytmgmdnmfalepkaa.HelpBB Go.Proofs.Ytmgmdnmfalepkaa.HelpSeg Go.Proofs.Ytmgmdnmfalepkaa.DecA Go.Proofs.Ytmgmdnmfalepkaa.DecB
set_option linter.unusedVariables false
theorem dec_none {b : List Int} (h : implP b = none) : dec b = ((0, [], [], []), 5) := by
  unfold dec decBy
  rw [h]
theorem dec_bad {b : List Int} {base : Int} {ls : List (List Int)} (h : implP b = some (base, ls)) (hf : ¬ (fits base ls = true ∧ code (seg base ls) = b)) : dec b = ((0, [], [], []), 5) := by
  unfold dec decBy
  rw [h]
  exact if_neg hf
theorem dec_good {b : List Int} {base : Int} {ls : List (List Int)} (h : implP b = some (base, ls)) (hf : fits base ls = true ∧ code (seg base ls) = b) : dec b = (seg base ls, 0) := by
  unfold dec decBy
  rw [h]
  exact if_pos hf
theorem implP_some {b : List Int} {base : Int} {ls : List (List Int)} (hb : ∀ x ∈ b, 0 ≤ x ∧ x ≤ 255) (h : implP b = some (base, ls)) : 0 ≤ base ∧ base < 34359738368 ∧ ls.length ≤ 1000 ∧ ls.length + totalB ls ≤ b.length ∧ Bytes ls := by
  unfold implP at h
  split at h
  · obtain ⟨h1, h2, h3, h4, h5⟩ := rdHead_some 5 (b.drop 2) base ls (bytes_drop hb 2) h
    rw [List.length_drop] at h4
    exact ⟨h1, Int.lt_of_lt_of_le h2 (by decide), h3, by omega, h5⟩
  · cases h
theorem gen_world (P : World → Prop) (w : World) (h : ∀ W, W = w → P W) : P w := h w rfl
theorem seg_form {w : World} {b : Int} {ls : List (List Int)} {v : Value} (h : tSeg.K w (seg b ls) v) : ∃ (A1 : Option Addr) (c1 : Nat) (A2 : Option Addr) (c2 : Nat) (A3 : Option Addr) (c3 : Nat), v = .agg #[.int .i64 b, .slice A1 ls.length c1, .slice A2 (keys ls).length c2, .slice A3 (keys ls).length c3] := by
  obtain ⟨A1, c1, A2, c2, A3, c3, e⟩ := HelpSeg.form h
  refine ⟨A1, c1, A2, c2, A3, c3, ?_⟩
  have e2 : ((keys ls).map (post b ls ls.length)).length = (keys ls).length := List.length_map ..
  rw [e]
  show Value.agg #[.int .i64 b, .slice A1 ls.length c1, .slice A2 (keys ls).length c2, .slice A3 ((keys ls).map (post b ls ls.length)).length c3] = _
  rw [e2]
theorem seg_parts {w : World} {b : Int} {ls : List (List Int)} {K : List Int} {Ps : List (List Int)} {v0 v1 v2 v3 : Value} (h : tSeg.K w (b, ls, K, Ps) (.agg #[v0, v1, v2, v3])) : HelpBB.tBB.K w ls v1 ∧ HelpI.tI.K w K v2 ∧ HelpII.tII.K w Ps v3 := by
  obtain ⟨l, el, u0, r0, e0, g0, u1, r1, e1, g1, u2, r2, e2, g2, u3, e3, g3⟩ := h
  subst e3 e2 e1 e0
  injection el with el
  have el' := congrArg Array.toList el
  simp only [List.cons.injEq, and_true] at el'
  obtain ⟨rfl, rfl, rfl, rfl⟩ := el'
  exact ⟨g1, g2, g3⟩
theorem enc_seg (base : Int) (ls : List (List Int)) (D1 D2 D3 : Option Addr) (d1 d2 d3 : Nat) (W : World) (h : tSeg.K W (seg base ls) (.agg #[.int .i64 base, .slice D1 ls.length d1, .slice D2 (keys ls).length d2, .slice D3 (keys ls).length d3])) (hok : EncOk (seg base ls)) (hby : Bytes ls) (h0 : 0 ≤ base) :
    Calls Try.prog 105 #[.agg #[.int .i64 base, .slice D1 ls.length d1, .slice D2 (keys ls).length d2, .slice D3 (keys ls).length d3]] W fun e w' => ∃ v', e = .returned v' ∧ HelpB.tB.M w' W.heap.size (fun _ => True) (code (seg base ls)) v' ∧ Grew W w' := by
  obtain ⟨bn, rfl⟩ : ∃ n : Nat, base = (n : Int) := ⟨base.toNat, by omega⟩
  obtain ⟨k1, k2, k3⟩ := seg_parts h
  have e : ((keys ls).map (post (bn : Int) ls ls.length)).length = (keys ls).length := List.length_map ..
  have h := encoded_calls bn ls (keys ls) ((keys ls).map (post (bn : Int) ls ls.length)) D1 D2 D3 d1 d2 d3 W k1 k2 (by rw [e]; exact k3) hok hby
  rw [e] at h
  exact h
set_option maxRecDepth 100000 in
set_option maxHeartbeats 4000000 in
theorem decode_calls (A : Option Addr) (c : Nat) (b : List Int) (w : World) (hr : Kd.C (Kd.int .u8) w A b.length b) (hc : b.length ≤ c) (hb : ∀ x ∈ b, 0 ≤ x ∧ x ≤ 255) (hl : b.length ≤ 1048576) :
    Calls Try.prog 45 #[.slice A b.length c] w fun e w' => ∃ v, e = .returned (.tuple #[v, .int .i64 (dec b).2]) ∧ tSeg.M w' w.heap.size (fun _ => True) (dec b).1 v ∧ Grew w w' := by
  have huI := Try.underlying50
  have huD := Try.underlying119
  have huR := Try.underlying117
  have HR := Aside0.mk hr
  have HC := Aside0.mk hc
  have HY := Aside0.mk hb
  clear hr hc hb
  go_enter Try.func45, Try.ntmps45
  go_wp2_with (first | ((with_reducible refine gate_dst (N := 2) rfl ?_); refine box_event ?hg (N := 2) ?hd (cs := #[.int .i64 0, .slice none 0 0, .slice none 0 0, .slice none 0 0]) (t := 50) ?hr ?_; (case hd => rfl); (case hg => rfl); (case hr => first | (go_simp; done) | (go_simp; rfl)); intro g1 hg_ w1 hbx hbb; have BKg1 := Aside0.mk hbx; have GEg1 := Aside0.mk (show w.heap.size ≤ g1 from Nat.le_of_eq hg_.symm); have HBw1 := Aside0.mk hbb; clear hg_ hbb; have hg1c0 : w1.cell? ⟨g1, 0, none⟩ = some (.int .i64 0) := (blk_cell hbx 0).trans rfl; have hg1f0 := blk_frozen hbx 0; have hg1c1 : w1.cell? ⟨g1, 1, none⟩ = some (.slice none 0 0) := (blk_cell hbx 1).trans rfl; have hg1f1 := blk_frozen hbx 1; have hg1c2 : w1.cell? ⟨g1, 2, none⟩ = some (.slice none 0 0) := (blk_cell hbx 2).trans rfl; have hg1f2 := blk_frozen hbx 2; have hg1c3 : w1.cell? ⟨g1, 3, none⟩ = some (.slice none 0 0) := (blk_cell hbx 3).trans rfl; have hg1f3 := blk_frozen hbx 3; clear hbx) | ((with_reducible refine gate_dst (N := 10) rfl ?_); refine box_event ?hg (N := 10) ?hd (cs := #[.slice A b.length c, .bool false, .int .i64 0, .slice none 0 0]) (t := 119) ?hr ?_; (case hd => rfl); (case hg => rfl); (case hr => first | (go_simp; done) | (go_simp; rfl)); intro gd hg_ w2 hbx hbb; have BKgd := Aside0.mk hbx; have GEgd := Aside0.mk (show w1.heap.size ≤ gd from Nat.le_of_eq hg_.symm); have HBw2 := Aside0.mk hbb; clear hg_ hbb; have hgdc0 : w2.cell? ⟨gd, 0, none⟩ = some (.slice A b.length c) := (blk_cell hbx 0).trans rfl; have hgdf0 := blk_frozen hbx 0; have hgdc1 : w2.cell? ⟨gd, 1, none⟩ = some (.bool false) := (blk_cell hbx 1).trans rfl; have hgdf1 := blk_frozen hbx 1; have hgdc2 : w2.cell? ⟨gd, 2, none⟩ = some (.int .i64 0) := (blk_cell hbx 2).trans rfl; have hgdf2 := blk_frozen hbx 2; have hgdc3 : w2.cell? ⟨gd, 3, none⟩ = some (.slice none 0 0) := (blk_cell hbx 3).trans rfl; have hgdf3 := blk_frozen hbx 3; clear hbx))
  have hst : St w1 w2 gd b false (.int .i64 0) (.slice none 0 0) := ⟨GEgd.out, HBw2.out, A, c, BKgd.out, Kd.C_below HR.out HBw1.out, HC.out⟩
  have hh := head_calls gd b w1 w2 hst HY.out hl
  clear hst
  go_at_call 103
  refine hh.mono ?_
  rintro e w3 ⟨hF, hB3⟩
  have BK1 := Aside0.mk (blk_below (g := g1) BKg1.out hB3)
  have HB3 := Aside0.mk (show Below w.heap.size w w3 from below_step HBw1.out hB3)
  have GL1 := Aside0.mk (blk_lt BKg1.out)
  clear hh hgdc0 hgdf0 hgdc1 hgdf1 hgdc2 hgdf2 hgdc3 hgdf3 hg1c0 hg1f0 hg1c1 hg1f1 hg1c2 hg1f2 hg1c3 hg1f3
  have k1c0 : w3.cell? ⟨g1, 0, none⟩ = some (.int .i64 0) := (blk_cell BK1.out 0).trans rfl; have k1f0 := blk_frozen BK1.out 0; have k1c1 : w3.cell? ⟨g1, 1, none⟩ = some (.slice none 0 0) := (blk_cell BK1.out 1).trans rfl; have k1f1 := blk_frozen BK1.out 1; have k1c2 : w3.cell? ⟨g1, 2, none⟩ = some (.slice none 0 0) := (blk_cell BK1.out 2).trans rfl; have k1f2 := blk_frozen BK1.out 2; have k1c3 : w3.cell? ⟨g1, 3, none⟩ = some (.slice none 0 0) := (blk_cell BK1.out 3).trans rfl; have k1f3 := blk_frozen BK1.out 3
  unfold DecB.Found at hF
  cases hP : implP b with
  | none =>
    rw [hP] at hF
    have hF : e = .returned (.bool false) := hF
    subst hF
    have HD := Aside0.mk (dec_none hP)
    clear hP
    go_wp2
    refine bodyPost_ret (results_ct rfl _ _ g1 50 #[.int .i64 0, .slice none 0 0, .slice none 0 0, .slice none 0 0] (0, 0) _ rfl (by (with_reducible repeat (first | refine blk_drewN ?_ _ | refine blk_drew ?_ | refine blk_alloc ?_ _)); refine blk_put (cs := #[.int .i64 0, .slice none 0 0, .slice none 0 0, .slice none 0 0]) ?_ 3 _ rfl; (with_reducible repeat (first | refine blk_drewN ?_ _ | refine blk_drew ?_ | refine blk_alloc ?_ _)); refine blk_put (cs := #[.int .i64 0, .slice none 0 0, .slice none 0 0, .slice none 0 0]) ?_ 2 _ rfl; (with_reducible repeat (first | refine blk_drewN ?_ _ | refine blk_drew ?_ | refine blk_alloc ?_ _)); refine blk_put (cs := #[.int .i64 0, .slice none 0 0, .slice none 0 0, .slice none 0 0]) ?_ 1 _ rfl; (with_reducible repeat (first | refine blk_drewN ?_ _ | refine blk_drew ?_ | refine blk_alloc ?_ _)); refine blk_put (cs := #[.int .i64 0, .slice none 0 0, .slice none 0 0, .slice none 0 0]) ?_ 0 _ rfl; (with_reducible repeat (first | refine blk_drewN ?_ _ | refine blk_drew ?_ | refine blk_alloc ?_ _)); exact BK1.out) Try.underlying50 rfl (by kernel_rfl)) rfl ?_
    rw [HD.out]
    exact ⟨_, rfl, bad_M _ _, below_set (below_set (below_set (below_set (HB3.out) GEg1.out) GEg1.out) GEg1.out) GEg1.out⟩
  | some q =>
    obtain ⟨base, ls⟩ := q
    rw [hP] at hF
    obtain ⟨he, r, f3, hS3, hK3⟩ := hF
    subst he
    obtain ⟨A3, c3, rfl, hc3, hr3⟩ := hK3
    obtain ⟨b0, b1, l1, l2, l3⟩ := implP_some HY.out hP
    have hS3 : St w1 w3 gd r false (.int .i64 base) (.slice A3 ls.length c3) := hS3
    obtain ⟨hd1, hf1, hd2, hf2, hd3, hf3⟩ := hS3.cell
    have HS3 := Aside0.mk hS3
    have hs : smallBB ls := by show ls.length + totalB ls ≤ 1048576; omega
    have HBY := Aside0.mk l3
    have HR3 := Aside0.mk hr3
    have HC3 := Aside0.mk hc3
    have HP := Aside0.mk hP
    have hbuild : ∀ W, Below w3.heap.size w3 W → Calls Try.prog 40 #[.int .i64 base, .slice A3 ls.length c3] W fun e w' => ∃ v, e = .returned (.tuple #[v, .int .i64 (build base ls).2]) ∧ tSeg.M w' W.heap.size (fun _ => True) (build base ls).1 v ∧ Grew W w' := fun W hW => build_calls base A3 c3 ls W (Kd.C_below HR3.out hW) HC3.out HBY.out hs
    have HBU := Aside0.mk hbuild
    clear hbuild hS3 hr3 hc3 l3 hs hP
    have HKP := Aside0.mk (show ∀ W, Below w3.heap.size w3 W → (W.cell? ⟨gd, 2, none⟩ = some (.int .i64 base) ∧ W.frozen? ⟨gd, 2, none⟩ = false ∧ W.cell? ⟨gd, 3, none⟩ = some (.slice A3 ls.length c3) ∧ W.frozen? ⟨gd, 3, none⟩ = false) from fun W hW => by
      obtain ⟨_, _, x1, x2, x3, x4⟩ := (HS3.out.below hW).cell
      exact ⟨x1, x2, x3, x4⟩)
    have HZ3 := Aside0.mk HB3.out.size
    have HG1 := Aside0.mk (blk_lt BK1.out)
    cases hft : fits base ls with
    | false =>
      have HBV := Aside0.mk (build_bad hft)
      have HD := Aside0.mk (dec_bad HP.out (fun h => by have := h.1; rw [hft] at this; cases this))
      clear hft
      go_wp2_with fail
      go_region_held3 (fun W_ => W_.cell? ⟨gd, 2, none⟩ = some (.int .i64 base) ∧ W_.frozen? ⟨gd, 2, none⟩ = false ∧ W_.cell? ⟨gd, 3, none⟩ = some (.slice A3 ls.length c3) ∧ W_.frozen? ⟨gd, 3, none⟩ = false) (exact HKP.out _ (by repeat (first | exact Below.refl _ _ | exact HG5.out | apply below_alloc | apply below_drew1 | apply pw_below_drewN | refine below_set ?_ (by first | exact Nat.le_refl _ | exact HZ5.out)))) (first | (go_at_call 40; refine (HBU.out _ ?hb).mono ?_; (case hb => repeat (first | exact Below.refl _ _ | apply below_alloc | apply below_drew1 | apply pw_below_drewN)); rintro e w5 ⟨v5, rfl, hM5, hg5⟩; rw [HBV.out] at hM5; have HG5 := Aside0.mk (show Below w3.heap.size w3 w5 from grew_trans (by repeat (first | exact Below.refl _ _ | apply below_alloc | apply below_drew1 | apply pw_below_drewN)) hg5); have HZ5 := Aside0.mk HG5.out.size; obtain ⟨D1, d1, D2, d2, D3, d3, ev5⟩ := HelpSeg.form (tSeg.K_of_M hM5); subst ev5; rw [HBV.out]; first | (have BKz := Aside0.mk (show w5.heap[w3.heap.size]? = some (.cells #[.int .i64 0, .slice none 0 0, .slice none 0 0, .slice none 0 0] 50 (0, 0)) from blk_below (by (with_reducible repeat (first | refine blk_drewN ?_ _ | refine blk_drew ?_)); exact heap_alloc_new _ _) hg5); have zc0 : w5.cell? ⟨w3.heap.size, 0, none⟩ = some (.int .i64 0) := (blk_cell BKz.out 0).trans rfl; have zf0 := blk_frozen BKz.out 0; have zc1 : w5.cell? ⟨w3.heap.size, 1, none⟩ = some (.slice none 0 0) := (blk_cell BKz.out 1).trans rfl; have zf1 := blk_frozen BKz.out 1; have zc2 : w5.cell? ⟨w3.heap.size, 2, none⟩ = some (.slice none 0 0) := (blk_cell BKz.out 2).trans rfl; have zf2 := blk_frozen BKz.out 2; have zc3 : w5.cell? ⟨w3.heap.size, 3, none⟩ = some (.slice none 0 0) := (blk_cell BKz.out 3).trans rfl; have zf3 := blk_frozen BKz.out 3) | (have BKz := Aside0.mk (heap_alloc_new w5 (.cells #[.int .i64 0, .slice none 0 0, .slice none 0 0, .slice none 0 0] 50 (0, 0))); have zc0 : (w5.alloc (.cells #[.int .i64 0, .slice none 0 0, .slice none 0 0, .slice none 0 0] 50 (0, 0))).cell? ⟨w5.heap.size, 0, none⟩ = some (.int .i64 0) := (blk_cell BKz.out 0).trans rfl; have zf0 := blk_frozen BKz.out 0; have zc1 : (w5.alloc (.cells #[.int .i64 0, .slice none 0 0, .slice none 0 0, .slice none 0 0] 50 (0, 0))).cell? ⟨w5.heap.size, 1, none⟩ = some (.slice none 0 0) := (blk_cell BKz.out 1).trans rfl; have zf1 := blk_frozen BKz.out 1; have zc2 : (w5.alloc (.cells #[.int .i64 0, .slice none 0 0, .slice none 0 0, .slice none 0 0] 50 (0, 0))).cell? ⟨w5.heap.size, 2, none⟩ = some (.slice none 0 0) := (blk_cell BKz.out 2).trans rfl; have zf2 := blk_frozen BKz.out 2; have zc3 : (w5.alloc (.cells #[.int .i64 0, .slice none 0 0, .slice none 0 0, .slice none 0 0] 50 (0, 0))).cell? ⟨w5.heap.size, 3, none⟩ = some (.slice none 0 0) := (blk_cell BKz.out 3).trans rfl; have zf3 := blk_frozen BKz.out 3); clear hg5 hM5))
      all_goals
        refine gen_world _ _ ?_
        intro W9 hW9
        have HB9 := Aside0.mk (show Below w3.heap.size w3 W9 from by rw [hW9]; repeat (first | exact HG5.out | apply below_alloc | refine below_set ?_ (by first | exact Nat.le_refl _ | exact HZ5.out)))
        clear hW9
        clear zc0 zf0 zc1 zf1 zc2 zf2 zc3 zf3 BKz
        clear hd1 hf1 hd2 hf2 hd3 hf3 k1c0 k1f0 k1c1 k1f1 k1c2 k1f2 k1c3 k1f3
        have BK19 := Aside0.mk (blk_below (g := g1) BK1.out HB9.out)
        have k2c0 : W9.cell? ⟨g1, 0, none⟩ = some (.int .i64 0) := (blk_cell BK19.out 0).trans rfl; have k2f0 := blk_frozen BK19.out 0; have k2c1 : W9.cell? ⟨g1, 1, none⟩ = some (.slice none 0 0) := (blk_cell BK19.out 1).trans rfl; have k2f1 := blk_frozen BK19.out 1; have k2c2 : W9.cell? ⟨g1, 2, none⟩ = some (.slice none 0 0) := (blk_cell BK19.out 2).trans rfl; have k2f2 := blk_frozen BK19.out 2; have k2c3 : W9.cell? ⟨g1, 3, none⟩ = some (.slice none 0 0) := (blk_cell BK19.out 3).trans rfl; have k2f3 := blk_frozen BK19.out 3
        go_wp2
        refine bodyPost_ret (results_ct rfl _ _ g1 50 #[.int .i64 0, .slice none 0 0, .slice none 0 0, .slice none 0 0] (0, 0) _ rfl (by (with_reducible repeat (first | refine blk_drewN ?_ _ | refine blk_drew ?_ | refine blk_alloc ?_ _)); refine blk_put (cs := #[.int .i64 0, .slice none 0 0, .slice none 0 0, .slice none 0 0]) ?_ 3 _ rfl; (with_reducible repeat (first | refine blk_drewN ?_ _ | refine blk_drew ?_ | refine blk_alloc ?_ _)); refine blk_put (cs := #[.int .i64 0, .slice none 0 0, .slice none 0 0, .slice none 0 0]) ?_ 2 _ rfl; (with_reducible repeat (first | refine blk_drewN ?_ _ | refine blk_drew ?_ | refine blk_alloc ?_ _)); refine blk_put (cs := #[.int .i64 0, .slice none 0 0, .slice none 0 0, .slice none 0 0]) ?_ 1 _ rfl; (with_reducible repeat (first | refine blk_drewN ?_ _ | refine blk_drew ?_ | refine blk_alloc ?_ _)); refine blk_put (cs := #[.int .i64 0, .slice none 0 0, .slice none 0 0, .slice none 0 0]) ?_ 0 _ rfl; (with_reducible repeat (first | refine blk_drewN ?_ _ | refine blk_drew ?_ | refine blk_alloc ?_ _)); exact BK19.out) Try.underlying50 rfl (by kernel_rfl)) rfl ?_
        rw [HD.out]
        exact ⟨_, rfl, bad_M _ _, below_set (below_set (below_set (below_set (below_step HB3.out HB9.out) GEg1.out) GEg1.out) GEg1.out) GEg1.out⟩
    | true =>
      have HBV := Aside0.mk (show build base ls = (seg base ls, 0) from by unfold build; rw [hft]; rfl)
      have HOK := Aside0.mk (encOk_seg hft HBY.out)
      have HF := Aside0.mk hft
      clear hft
      go_wp2_with fail
      go_region_held3 (fun W_ => W_.cell? ⟨gd, 2, none⟩ = some (.int .i64 base) ∧ W_.frozen? ⟨gd, 2, none⟩ = false ∧ W_.cell? ⟨gd, 3, none⟩ = some (.slice A3 ls.length c3) ∧ W_.frozen? ⟨gd, 3, none⟩ = false) (exact HKP.out _ (by repeat (first | exact Below.refl _ _ | exact HG5.out | apply below_alloc | apply below_drew1 | apply pw_below_drewN | refine below_set ?_ (by first | exact Nat.le_refl _ | exact HZ5.out)))) (first | (go_at_call 40; refine (HBU.out _ ?hb).mono ?_; (case hb => repeat (first | exact Below.refl _ _ | apply below_alloc | apply below_drew1 | apply pw_below_drewN)); rintro e w5 ⟨v5, rfl, hM5, hg5⟩; rw [HBV.out] at hM5; have HG5 := Aside0.mk (show Below w3.heap.size w3 w5 from grew_trans (by repeat (first | exact Below.refl _ _ | apply below_alloc | apply below_drew1 | apply pw_below_drewN)) hg5); have HZ5 := Aside0.mk HG5.out.size; obtain ⟨D1, d1, D2, d2, D3, d3, ev5⟩ := seg_form (tSeg.K_of_M hM5); subst ev5; rw [HBV.out]; first | (have BKz := Aside0.mk (show w5.heap[w3.heap.size]? = some (.cells #[.int .i64 0, .slice none 0 0, .slice none 0 0, .slice none 0 0] 50 (0, 0)) from blk_below (by (with_reducible repeat (first | refine blk_drewN ?_ _ | refine blk_drew ?_)); exact heap_alloc_new _ _) hg5); have zc0 : w5.cell? ⟨w3.heap.size, 0, none⟩ = some (.int .i64 0) := (blk_cell BKz.out 0).trans rfl; have zf0 := blk_frozen BKz.out 0; have zc1 : w5.cell? ⟨w3.heap.size, 1, none⟩ = some (.slice none 0 0) := (blk_cell BKz.out 1).trans rfl; have zf1 := blk_frozen BKz.out 1; have zc2 : w5.cell? ⟨w3.heap.size, 2, none⟩ = some (.slice none 0 0) := (blk_cell BKz.out 2).trans rfl; have zf2 := blk_frozen BKz.out 2; have zc3 : w5.cell? ⟨w3.heap.size, 3, none⟩ = some (.slice none 0 0) := (blk_cell BKz.out 3).trans rfl; have zf3 := blk_frozen BKz.out 3; have HM5 := Aside0.mk (show tSeg.M w5 w3.heap.size (fun k => w3.heap.size < k) (seg base ls) _ from tSeg.M_mono (fun k hk => by have h1 : (w3.alloc (.cells #[.int .i64 0, .slice none 0 0, .slice none 0 0, .slice none 0 0] 50 (0, 0))).heap.size ≤ k := hk.1; simp only [World.size_alloc] at h1; exact h1) (tSeg.M_lower (show w3.heap.size ≤ (w3.alloc (.cells #[.int .i64 0, .slice none 0 0, .slice none 0 0, .slice none 0 0] 50 (0, 0))).heap.size from by simp only [World.size_alloc]; exact Nat.le_succ _) (Ty.M_beyond (T := tSeg) hM5)))) | (have BKz := Aside0.mk (heap_alloc_new w5 (.cells #[.int .i64 0, .slice none 0 0, .slice none 0 0, .slice none 0 0] 50 (0, 0))); have zc0 : (w5.alloc (.cells #[.int .i64 0, .slice none 0 0, .slice none 0 0, .slice none 0 0] 50 (0, 0))).cell? ⟨w5.heap.size, 0, none⟩ = some (.int .i64 0) := (blk_cell BKz.out 0).trans rfl; have zf0 := blk_frozen BKz.out 0; have zc1 : (w5.alloc (.cells #[.int .i64 0, .slice none 0 0, .slice none 0 0, .slice none 0 0] 50 (0, 0))).cell? ⟨w5.heap.size, 1, none⟩ = some (.slice none 0 0) := (blk_cell BKz.out 1).trans rfl; have zf1 := blk_frozen BKz.out 1; have zc2 : (w5.alloc (.cells #[.int .i64 0, .slice none 0 0, .slice none 0 0, .slice none 0 0] 50 (0, 0))).cell? ⟨w5.heap.size, 2, none⟩ = some (.slice none 0 0) := (blk_cell BKz.out 2).trans rfl; have zf2 := blk_frozen BKz.out 2; have zc3 : (w5.alloc (.cells #[.int .i64 0, .slice none 0 0, .slice none 0 0, .slice none 0 0] 50 (0, 0))).cell? ⟨w5.heap.size, 3, none⟩ = some (.slice none 0 0) := (blk_cell BKz.out 3).trans rfl; have zf3 := blk_frozen BKz.out 3; have HM5 := Aside0.mk (show tSeg.M w5 w3.heap.size (fun k => w3.heap.size ≤ k ∧ k < w5.heap.size) (seg base ls) _ from Ty.M_beyond (T := tSeg) hM5)); clear hg5 hM5))
      all_goals
        refine gen_world _ _ ?_
        intro W9 hW9
        have HB9 := Aside0.mk (show Below w3.heap.size w3 W9 from by rw [hW9]; repeat (first | exact HG5.out | apply below_alloc | refine below_set ?_ (by first | exact Nat.le_refl _ | exact HZ5.out)))
        first | (have M9 := Aside0.mk (show tSeg.M W9 w3.heap.size (fun k => w3.heap.size ≤ k) (seg base ls) (.agg #[.int .i64 base, .slice D1 ls.length d1, .slice D2 (keys ls).length d2, .slice D3 (keys ls).length d3]) from by rw [hW9]; exact tSeg.M_mono (fun k hk => Nat.le_of_lt hk) (Ty.M_set (T := tSeg) (Ty.M_set (T := tSeg) (Ty.M_set (T := tSeg) (Ty.M_set (T := tSeg) HM5.out (fun k hk e => by omega) _) (fun k hk e => by omega) _) (fun k hk e => by omega) _) (fun k hk e => by omega) _)); obtain ⟨k9, hk9⟩ : ∃ k9, k9 = w3.heap.size := ⟨_, rfl⟩; rw [← hk9]; have BK9 := Aside0.mk (show W9.heap[k9]? = some (.cells #[.int .i64 base, .slice D1 ls.length d1, .slice D2 (keys ls).length d2, .slice D3 (keys ls).length d3] 50 (0, 0)) from by rw [hW9, hk9]; refine blk_put (cs := #[.int .i64 base, .slice D1 ls.length d1, .slice D2 (keys ls).length d2, .slice none 0 0]) ?_ 3 _ rfl; refine blk_put (cs := #[.int .i64 base, .slice D1 ls.length d1, .slice none 0 0, .slice none 0 0]) ?_ 2 _ rfl; refine blk_put (cs := #[.int .i64 base, .slice none 0 0, .slice none 0 0, .slice none 0 0]) ?_ 1 _ rfl; refine blk_put (cs := #[.int .i64 0, .slice none 0 0, .slice none 0 0, .slice none 0 0]) ?_ 0 _ rfl; exact BKz.out)) | (have M9 := Aside0.mk (show tSeg.M W9 w3.heap.size (fun k => w3.heap.size ≤ k) (seg base ls) (.agg #[.int .i64 base, .slice D1 ls.length d1, .slice D2 (keys ls).length d2, .slice D3 (keys ls).length d3]) from by rw [hW9]; exact tSeg.M_mono (fun k hk => hk.1) (Ty.M_below (T := tSeg) HM5.out (below_alloc (Below.refl _ _) _))); obtain ⟨k9, hk9⟩ : ∃ k9, k9 = w5.heap.size := ⟨_, rfl⟩; rw [← hk9]; have BK9 := Aside0.mk (show W9.heap[k9]? = some (.cells #[.int .i64 base, .slice D1 ls.length d1, .slice D2 (keys ls).length d2, .slice D3 (keys ls).length d3] 50 (0, 0)) from by rw [hW9, hk9]; exact heap_alloc_new _ _))
        clear hW9 hk9
        clear zc0 zf0 zc1 zf1 zc2 zf2 zc3 zf3 BKz
        clear hd1 hf1 hd2 hf2 hd3 hf3 k1c0 k1f0 k1c1 k1f1 k1c2 k1f2 k1c3 k1f3 HBV HKP
        have BK19 := Aside0.mk (blk_below (g := g1) BK1.out HB9.out)
        have k2c0 : W9.cell? ⟨g1, 0, none⟩ = some (.int .i64 0) := (blk_cell BK19.out 0).trans rfl; have k2f0 := blk_frozen BK19.out 0; have k2c1 : W9.cell? ⟨g1, 1, none⟩ = some (.slice none 0 0) := (blk_cell BK19.out 1).trans rfl; have k2f1 := blk_frozen BK19.out 1; have k2c2 : W9.cell? ⟨g1, 2, none⟩ = some (.slice none 0 0) := (blk_cell BK19.out 2).trans rfl; have k2f2 := blk_frozen BK19.out 2; have k2c3 : W9.cell? ⟨g1, 3, none⟩ = some (.slice none 0 0) := (blk_cell BK19.out 3).trans rfl; have k2f3 := blk_frozen BK19.out 3; have s9c0 : W9.cell? ⟨k9, 0, none⟩ = some (.int .i64 base) := (blk_cell BK9.out 0).trans rfl; have s9f0 := blk_frozen BK9.out 0; have s9c1 : W9.cell? ⟨k9, 1, none⟩ = some (.slice D1 ls.length d1) := (blk_cell BK9.out 1).trans rfl; have s9f1 := blk_frozen BK9.out 1; have s9c2 : W9.cell? ⟨k9, 2, none⟩ = some (.slice D2 (keys ls).length d2) := (blk_cell BK9.out 2).trans rfl; have s9f2 := blk_frozen BK9.out 2; have s9c3 : W9.cell? ⟨k9, 3, none⟩ = some (.slice D3 (keys ls).length d3) := (blk_cell BK9.out 3).trans rfl; have s9f3 := blk_frozen BK9.out 3
        have henc := enc_seg base ls D1 D2 D3 d1 d2 d3 W9 (tSeg.K_of_M M9.out) HOK.out HBY.out b0
        go_wp2_with fail
        go_at_call 105
        refine henc.mono ?_
        rintro e w6 ⟨vE, rfl, hME, hgE⟩
        obtain ⟨E, ec, rfl, hEc, hEr⟩ := HelpB.tB.K_of_M hME
        have M6 := Aside0.mk (Ty.M_below (T := tSeg) M9.out hgE)
        have BK16 := Aside0.mk (blk_below (g := g1) BK19.out hgE)
        have BK96 := Aside0.mk (blk_below (g := k9) BK9.out hgE)
        have HB6 := Aside0.mk (show Below w.heap.size w w6 from below_step (below_step HB3.out HB9.out) hgE)
        have heq := Try.bytes_Equal (.slice E (code (seg base ls)).length ec) (.slice A b.length c) (code (seg base ls)) b w6 (Kd.C_string Try.underlying33 Try.underlying5 Try.underlying9 hEr) (Kd.C_string Try.underlying33 Try.underlying5 Try.underlying9 (Kd.C_below HR.out HB6.out))
        have hsb := same_bytes (code (seg base ls)) b (code_bytes HBY.out) HY.out
        rw [Go.Lib.strOfNums_toList, Go.Lib.strOfNums_toList] at hsb
        rw [hsb] at heq
        clear hsb henc hME hgE hEc hEr k2c0 k2f0 k2c1 k2f1 k2c2 k2f2 k2c3 k2f3 s9c0 s9f0 s9c1 s9f1 s9c2 s9f2 s9c3 s9f3 M9 BK9 BK19
        have k6c0 : w6.cell? ⟨g1, 0, none⟩ = some (.int .i64 0) := (blk_cell BK16.out 0).trans rfl; have k6f0 := blk_frozen BK16.out 0; have k6c1 : w6.cell? ⟨g1, 1, none⟩ = some (.slice none 0 0) := (blk_cell BK16.out 1).trans rfl; have k6f1 := blk_frozen BK16.out 1; have k6c2 : w6.cell? ⟨g1, 2, none⟩ = some (.slice none 0 0) := (blk_cell BK16.out 2).trans rfl; have k6f2 := blk_frozen BK16.out 2; have k6c3 : w6.cell? ⟨g1, 3, none⟩ = some (.slice none 0 0) := (blk_cell BK16.out 3).trans rfl; have k6f3 := blk_frozen BK16.out 3; have t9c0 : w6.cell? ⟨k9, 0, none⟩ = some (.int .i64 base) := (blk_cell BK96.out 0).trans rfl; have t9f0 := blk_frozen BK96.out 0; have t9c1 : w6.cell? ⟨k9, 1, none⟩ = some (.slice D1 ls.length d1) := (blk_cell BK96.out 1).trans rfl; have t9f1 := blk_frozen BK96.out 1; have t9c2 : w6.cell? ⟨k9, 2, none⟩ = some (.slice D2 (keys ls).length d2) := (blk_cell BK96.out 2).trans rfl; have t9f2 := blk_frozen BK96.out 2; have t9c3 : w6.cell? ⟨k9, 3, none⟩ = some (.slice D3 (keys ls).length d3) := (blk_cell BK96.out 3).trans rfl; have t9f3 := blk_frozen BK96.out 3
        by_cases hcb : code (seg base ls) = b
        · rw [decide_eq_true hcb] at heq
          have HD := Aside0.mk (dec_good HP.out ⟨HF.out, hcb⟩)
          clear hcb
          go_wp2_with (go_at_call 104; refine heq.mono ?_; rintro e w7 ⟨rfl, hw7⟩; subst hw7)
          refine bodyPost_ret (results_ct rfl _ _ g1 50 #[.int .i64 base, .slice D1 ls.length d1, .slice D2 (keys ls).length d2, .slice D3 (keys ls).length d3] (0, 0) _ rfl (by (with_reducible repeat (first | refine blk_drewN ?_ _ | refine blk_drew ?_ | refine blk_alloc ?_ _)); refine blk_put (cs := #[.int .i64 base, .slice D1 ls.length d1, .slice D2 (keys ls).length d2, .slice none 0 0]) ?_ 3 _ rfl; (with_reducible repeat (first | refine blk_drewN ?_ _ | refine blk_drew ?_ | refine blk_alloc ?_ _)); refine blk_put (cs := #[.int .i64 base, .slice D1 ls.length d1, .slice none 0 0, .slice none 0 0]) ?_ 2 _ rfl; (with_reducible repeat (first | refine blk_drewN ?_ _ | refine blk_drew ?_ | refine blk_alloc ?_ _)); refine blk_put (cs := #[.int .i64 base, .slice none 0 0, .slice none 0 0, .slice none 0 0]) ?_ 1 _ rfl; (with_reducible repeat (first | refine blk_drewN ?_ _ | refine blk_drew ?_ | refine blk_alloc ?_ _)); refine blk_put (cs := #[.int .i64 0, .slice none 0 0, .slice none 0 0, .slice none 0 0]) ?_ 0 _ rfl; (with_reducible repeat (first | refine blk_drewN ?_ _ | refine blk_drew ?_ | refine blk_alloc ?_ _)); exact BK16.out) Try.underlying50 rfl (by kernel_rfl)) rfl ?_
          rw [HD.out]
          refine ⟨_, rfl, ?_, below_set (below_set (below_set (below_set (HB6.out) GEg1.out) GEg1.out) GEg1.out) GEg1.out⟩
          have hg1 := HG1.out
          exact tSeg.M_mono (fun _ _ => trivial) (Ty.M_set (T := tSeg) (Ty.M_set (T := tSeg) (Ty.M_set (T := tSeg) (Ty.M_set (T := tSeg) (tSeg.M_lower HZ3.out M6.out) (fun k hk e => by omega) _) (fun k hk e => by omega) _) (fun k hk e => by omega) _) (fun k hk e => by omega) _)
        · rw [decide_eq_false hcb] at heq
          have HD := Aside0.mk (dec_bad HP.out (fun h => hcb h.2))
          clear hcb
          go_wp2_with (go_at_call 104; refine heq.mono ?_; rintro e w7 ⟨rfl, hw7⟩; subst hw7)
          refine bodyPost_ret (results_ct rfl _ _ g1 50 #[.int .i64 0, .slice none 0 0, .slice none 0 0, .slice none 0 0] (0, 0) _ rfl (by (with_reducible repeat (first | refine blk_drewN ?_ _ | refine blk_drew ?_ | refine blk_alloc ?_ _)); refine blk_put (cs := #[.int .i64 0, .slice none 0 0, .slice none 0 0, .slice none 0 0]) ?_ 3 _ rfl; (with_reducible repeat (first | refine blk_drewN ?_ _ | refine blk_drew ?_ | refine blk_alloc ?_ _)); refine blk_put (cs := #[.int .i64 0, .slice none 0 0, .slice none 0 0, .slice none 0 0]) ?_ 2 _ rfl; (with_reducible repeat (first | refine blk_drewN ?_ _ | refine blk_drew ?_ | refine blk_alloc ?_ _)); refine blk_put (cs := #[.int .i64 0, .slice none 0 0, .slice none 0 0, .slice none 0 0]) ?_ 1 _ rfl; (with_reducible repeat (first | refine blk_drewN ?_ _ | refine blk_drew ?_ | refine blk_alloc ?_ _)); refine blk_put (cs := #[.int .i64 0, .slice none 0 0, .slice none 0 0, .slice none 0 0]) ?_ 0 _ rfl; (with_reducible repeat (first | refine blk_drewN ?_ _ | refine blk_drew ?_ | refine blk_alloc ?_ _)); exact BK16.out) Try.underlying50 rfl (by kernel_rfl)) rfl ?_
          rw [HD.out]
          exact ⟨_, rfl, bad_M _ _, below_set (below_set (below_set (below_set (HB6.out) GEg1.out) GEg1.out) GEg1.out) GEg1.out⟩
abbrev codeD (b : List Int) : Int := (dec b).2
abbrev ansD (b : List Int) : SegT := (dec b).1
theorem implC (x0 : List Int) (v0 : Value) (w : World) (h0 : HelpB.tB.K w x0 v0) (s0 : HelpB.smallB x0) (hb : ∀ x ∈ x0, 0 ≤ x ∧ x ≤ 255) :
    Calls Try.prog 45 #[v0] w fun e w' => ∃ v', e = .returned (.tuple #[v', .int .i64 (codeD x0)]) ∧ HelpSeg.tSeg.M w' w.heap.size (fun _ => True) (ansD x0) v' ∧ Grew w w' := by
  obtain ⟨A, c, rfl, hc, hr⟩ := h0
  exact decode_calls A c x0 w hr hc hb s0
theorem specC (x0 : List Int) (v0 : Value) (w : World) (h0 : HelpB.tB.K w x0 v0) (s0 : HelpB.smallB x0) (hb : ∀ x ∈ x0, 0 ≤ x ∧ x ≤ 255) :
    Calls Try.prog 44 #[v0] w fun e w' => ∃ v', e = .returned (.tuple #[v', .int .i64 (codeD x0)]) ∧ HelpSeg.tSeg.K w' (ansD x0) v' ∧ Grew w w' := by
  obtain ⟨A, c, rfl, hc, hr⟩ := h0
  obtain ⟨k, hk⟩ := (decode_ev x0 hb s0).rounds
  refine (L.spec_DecodeSegment.calls k A c x0 _ _ _ _ _ w hr hc hk).mono ?_
  rintro e w' ⟨v1, v2, v3, rfl, q1, q2, q3, q4⟩
  exact ⟨_, rfl, ⟨[_, _, _, _], rfl, _, _, rfl, rfl, _, _, rfl, Kd.S_reads q1, _, _, rfl, Kd.R_reads q2, _, rfl, Kd.S_reads q3⟩, q4⟩
theorem ans_small (x0 : List Int) (s0 : HelpB.smallB x0) (hb : ∀ x ∈ x0, 0 ≤ x ∧ x ≤ 255) : HelpSeg.bdSeg (ansD x0) ∧ HelpSeg.cntSeg (ansD x0) ≤ 1099511627000 := by
  rcases decBy_or implP x0 with ⟨base, ls, h1, h2, h3, h4⟩ | h
  · obtain ⟨b0, b1, l1, l2, l3⟩ := implP_some hb h3
    have hs0 : x0.length ≤ 1048576 := s0
    have hs : smallBB ls := by show ls.length + totalB ls ≤ 1048576; omega
    have h := Build.ans_small base ls hs l3
    have e : ansD x0 = Build.ans base ls := by
      show (decBy implP x0).1 = (build base ls).1
      rw [h4]
      unfold build
      rw [h1]
      rfl
    rw [e]
    exact h
  · have e : ansD x0 = (0, [], [], []) := by
      show (decBy implP x0).1 = _
      rw [h]
    rw [e]
    exact ⟨⟨by decide, by decide, by decide⟩, by decide⟩
end Go.Proofs.Ytmgmdnmfalepkaa.Decode
