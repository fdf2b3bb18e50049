/- Parts of the proof (see the row's own text): SegOk, Decode, StoA, PStb, IdxBB. -/
import Derived.Test.YtmgmdnmfalepkaaGreatG00
import Derived.Test.YtmgmdnmfalepkaaGreatG14
import Derived.Test.YtmgmdnmfalepkaaGreatG11
import Derived.Test.YtmgmdnmfalepkaaGreatG12
import Derived.Deep.QuietTactic
import Derived.BigQuiet
import Derived.Test.YtmgmdnmfalepkaaGreatG13
import Derived.Test.YtmgmdnmfalepkaaGreatG2
namespace Go.Proofs.YtmgmdnmfalepkaaGreat.SegOk
open Go.RowKit Go.Proofs.YtmgmdnmfalepkaaGreatW.PrintWords Go.Proofs.YtmgmdnmfalepkaaGreatW.PrintMore Go.Proofs.YtmgmdnmfalepkaaGreat.Kit Go.Proofs.YtmgmdnmfalepkaaGreat.PKit Go.Proofs.YtmgmdnmfalepkaaGreat.Ty Go.Proofs.YtmgmdnmfalepkaaGreat.PSeg Go.Proofs.YtmgmdnmfalepkaaGreat.PEnc Go.Proofs.YtmgmdnmfalepkaaGreat.Build Go.Proofs.YtmgmdnmfalepkaaGreat.EncA Go.Proofs.YtmgmdnmfalepkaaGreat.HelpBB
set_option linter.unusedVariables false
theorem cellI {w : World} {ad : Addr} {n : Nat} {xs : List Int} (h : Kd.C (Kd.int .i64) w (some ad) n xs) (i : Nat) (hi : i < n) : w.cell? (ad.add i) = some (.int .i64 (xs.getD i 0)) := by
 obtain ⟨ad', c, e, _, hK, hc0⟩ := Kd.C_get h 0 (i : Int) zq1 zq1
 cases e
 rw [Int.toNat_natCast] at hK hc0
 have hk : c = [.int .i64 (xs.getD i 0)] := hK
 subst hk
 have := hc0 0 _ rfl
 simpa [Kd.int, Kd.scalar] using this
set_option maxRecDepth 100000 in
set_option maxHeartbeats 4000000 in
theorem equal_calls (A A' : Option Addr) (c c' : Nat) (x y : List Int) (w : World) (hr : Kd.C (Kd.int .i64) w A x.length x) (hr' : Kd.C (Kd.int .i64) w A' y.length y) (hx0 : x.length ≤ 1099511627776) :
  Calls Tryz.prog 100 #[.slice A x.length c, .slice A' y.length c'] w fun e w' => e = .returned (.bool (decide (x = y))) ∧ Below w.heap.size w w' := by
 have HX := zA hr
 have HY := zA hr'
 clear hr hr'
 by_cases hlen : x.length = y.length
 ·have HLN := zA hlen
  have hbl : ((x.length : Int) != (y.length : Int)) = false := by simp [hlen]
  clear hlen
  go_enter Tryz.func100, Tryz.ntmps100
  go_wp2
  go_loopg [13] x.length (fun gg s13 wr => ∃ i : Nat, i ≤ x.length ∧ x.length - i ≤ gg ∧ s13 = .int .i64 i ∧ Aside0 (x.take i = y.take i) ∧ Aside0 (Below w.heap.size w wr))
  case atStart => exact ⟨0, zq1, zq1, rfl, ⟨rfl⟩, ⟨Below.refl _ _⟩⟩
  case round =>
   obtain ⟨i, hi, hg, rfl, HT, HB⟩ := hrel
   have hla : x.length ≤ y.length := Nat.le_of_eq HLN.out
   have hlb : y.length ≤ x.length := Nat.le_of_eq HLN.out.symm
   by_cases hlt : i < x.length
   ·have hltz : (i : Int) < (x.length : Int) := by omega
    have hlty : (i : Int) < (y.length : Int) := by omega
    obtain ⟨ad, hA, _⟩ := HX.out.2.2 zq1
    obtain ⟨ad', hA', _⟩ := HY.out.2.2 zq1
    subst hA
    subst hA'
    have hcx := cellI (Kd.C_below HX.out HB.out) i zq1
    have hcy := cellI (Kd.C_below HY.out HB.out) i zq1
    have hstep : x.getD i 0 = y.getD i 0 → x.take (i + 1) = y.take (i + 1) := fun e => by
     rw [List.take_succ_eq_append_getElem hlt, List.take_succ_eq_append_getElem (show i < y.length by omega), HT.out, ← getD_get' x i hlt, ← getD_get' y i zq1, e]
    have hne : x.getD i 0 ≠ y.getD i 0 → decide (x = y) = false := fun h => decide_eq_false (fun e => h (by rw [e]))
    have HS := zA hstep
    have HNE := zA hne
    clear hstep hne
    generalize hx : x.getD i 0 = xi at hcx HS HNE
    generalize hy : y.getD i 0 = yi at hcy HS HNE
    clear hx hy
    by_cases he : xi = yi
    ·subst he
     have hbn : (xi != xi) = false := by simp
     go_wp2_with fail
     go_quiet (fail)
     go_wp2
     go_roundg (x.length - (i + 1))
     case measure => omega
     case rel => exact ⟨i + 1, zq1, zq1, by go_num, ⟨HS.out (by first | rfl | trivial)⟩, ⟨pw_below_drewN HB.out _⟩⟩
    ·have hbn : (xi != yi) = true := by simpa using he
     go_wp2_with fail
     go_quiet (fail)
     go_wp2
     go_ret
     exact ⟨by rw [HNE.out he]; rfl, pw_below_drewN HB.out _⟩
   ·have hltz : ¬ (i : Int) < (x.length : Int) := by omega
    obtain rfl : i = x.length := by omega
    have he : x = y := by
     have h1 := HT.out
     rw [List.take_length, List.take_of_length_le zq1] at h1
     exact h1
    have HE := zA (show decide (x = y) = true from decide_eq_true he)
    clear he
    go_wp2
    go_ret
    exact ⟨by rw [HE.out]; rfl, HB.out⟩
 ·have hlz : ¬ (x.length : Int) = (y.length : Int) := by omega
  go_enter Tryz.func100, Tryz.ntmps100
  go_wp2
  go_ret
  exact ⟨by rw [decide_eq_false (fun e => hlen (by rw [e]))]; rfl, Below.refl _ _⟩
set_option maxRecDepth 100000 in
set_option maxHeartbeats 4000000 in
theorem equalF_calls (A A' : Option Addr) (c c' : Nat) (x y : List (List Int)) (w : World) (hr : Kd.C HelpII.kI w A x.length x) (hr' : Kd.C HelpII.kI w A' y.length y) (hx0 : x.length ≤ 1099511627776) (hx1 : HelpII.totalI x ≤ 1099511627776) :
  Calls Tryz.prog 101 #[.slice A x.length c, .slice A' y.length c', .func (.func 100) #[] #[]] w fun e w' => e = .returned (.bool (decide (x = y))) ∧ Below w.heap.size w w' := by
 have HX := zA hr
 have HY := zA hr'
 clear hr hr'
 by_cases hlen : x.length = y.length
 ·have HLN := zA hlen
  have hbl : ((x.length : Int) != (y.length : Int)) = false := by simp [hlen]
  clear hlen
  go_enter Tryz.func101, Tryz.ntmps101
  go_wp2
  go_loopg [17] x.length (fun gg s17 wr => ∃ i : Nat, i ≤ x.length ∧ x.length - i ≤ gg ∧ s17 = .int .i64 i ∧ Aside0 (x.take i = y.take i) ∧ Aside0 (Below w.heap.size w wr))
  case atStart => exact ⟨0, zq1, zq1, rfl, ⟨rfl⟩, ⟨Below.refl _ _⟩⟩
  case round =>
   obtain ⟨i, hi, hg, rfl, HT, HB⟩ := hrel
   have hla : x.length ≤ y.length := Nat.le_of_eq HLN.out
   have hlb : y.length ≤ x.length := Nat.le_of_eq HLN.out.symm
   by_cases hlt : i < x.length
   ·have hltz : (i : Int) < (x.length : Int) := by omega
    have hlty : (i : Int) < (y.length : Int) := by omega
    obtain ⟨ad, u, rfl, hc0, hK⟩ := get_one (d := HelpII.kI) rfl HX.out [] i hlt
    obtain ⟨B, b, e', _, hr1⟩ := hK
    obtain rfl : u = .slice B (x.getD i []).length b := by injection e'
    obtain ⟨ad', u', rfl, hc1, hK'⟩ := get_one (d := HelpII.kI) rfl HY.out [] i zq1
    obtain ⟨B', b', e'', _, hr2⟩ := hK'
    obtain rfl : u' = .slice B' (y.getD i []).length b' := by injection e''
    have hcx : wr.cell? (ad.add i) = some (.slice B (x.getD i []).length b) := (HB.out.cell (World.block_lt_of_cell? w _ hc0)).trans hc0
    have hcy : wr.cell? (ad'.add i) = some (.slice B' (y.getD i []).length b') := (HB.out.cell (World.block_lt_of_cell? w _ hc1)).trans hc1
    have gx : x.getD i [] = x[i] := by simp [List.getD, List.getElem?_eq_getElem hlt]
    have gy : y.getD i [] = y[i]'zq1 := by simp [List.getD, List.getElem?_eq_getElem (show i < y.length by omega)]
    have hle : (x.getD i []).length ≤ 1099511627776 := by
     have h1 := HelpII.total_mem (show x.getD i [] ∈ x by rw [gx]; exact List.getElem_mem hlt)
     omega
    have heq := equal_calls B B' b b' (x.getD i []) (y.getD i []) wr (Kd.C_below hr1 HB.out) (Kd.C_below hr2 HB.out) hle
    have hstep : x.getD i [] = y.getD i [] → x.take (i + 1) = y.take (i + 1) := fun e => by
     rw [List.take_succ_eq_append_getElem hlt, List.take_succ_eq_append_getElem (show i < y.length by omega), HT.out, ← gx, ← gy, e]
    have hne : x.getD i [] ≠ y.getD i [] → decide (x = y) = false := fun h => decide_eq_false (fun e => h (by rw [e]))
    have HS := zA hstep
    have HNE := zA hne
    clear hstep hne hr1 hr2 e' e'' hc0 hc1 gx gy hle
    generalize hx : x.getD i [] = xi at hcx HS HNE heq
    generalize hy : y.getD i [] = yi at hcy HS HNE heq
    clear hx hy
    by_cases he : xi = yi
    ·rw [decide_eq_true he] at heq
     have HEQ := zA he
     clear he
     go_wp2_with (go_at_call 100; refine heq.mono ?_; rintro e w2 ⟨rfl, hb2⟩)
     go_roundg (x.length - (i + 1))
     case measure => omega
     case rel => exact ⟨i + 1, zq1, zq1, by go_num, ⟨HS.out HEQ.out⟩, ⟨below_then HB.out HB.out.size hb2⟩⟩
    ·rw [decide_eq_false he] at heq
     have HEQ := zA he
     clear he
     go_wp2_with (go_at_call 100; refine heq.mono ?_; rintro e w2 ⟨rfl, hb2⟩)
     go_ret
     exact ⟨by rw [HNE.out HEQ.out]; rfl, below_then HB.out HB.out.size hb2⟩
   ·have hltz : ¬ (i : Int) < (x.length : Int) := by omega
    obtain rfl : i = x.length := by omega
    have he : x = y := by
     have h1 := HT.out
     rw [List.take_length, List.take_of_length_le zq1] at h1
     exact h1
    have HE := zA (show decide (x = y) = true from decide_eq_true he)
    clear he
    go_wp2
    go_ret
    exact ⟨by rw [HE.out]; rfl, HB.out⟩
 ·have hlz : ¬ (x.length : Int) = (y.length : Int) := by omega
  go_enter Tryz.func101, Tryz.ntmps101
  go_wp2
  go_ret
  exact ⟨by rw [decide_eq_false (fun e => hlen (by rw [e]))]; rfl, Below.refl _ _⟩
set_option maxRecDepth 100000 in
set_option maxHeartbeats 4000000 in
theorem segOk_calls (b : Int) (ls : List (List Int)) (K : List Int) (Ps : List (List Int)) (A1 A2 A3 : Option Addr) (c1 c2 c3 : Nat) (w : World) (h1 : HelpBB.tBB.K w ls (.slice A1 ls.length c1)) (h2 : HelpI.tI.K w K (.slice A2 K.length c2)) (h3 : HelpII.tII.K w Ps (.slice A3 Ps.length c3))
  (hby : Bytes ls) (hs : smallBB ls) (hk : K.length ≤ 1048576) (hp : Ps.length + HelpII.totalI Ps ≤ 1048576) :
  Calls Tryz.prog 82 #[.agg #[.int .i64 b, .slice A1 ls.length c1, .slice A2 K.length c2, .slice A3 Ps.length c3]] w fun e w' => e = .returned (.bool (valid (b, ls, K, Ps))) ∧ Below w.heap.size w w' := by
 have huI := Tryz.underlying59
 obtain ⟨B1, e1, q1, hc1, hr1⟩ := h1
 obtain ⟨rfl, rfl⟩ : A1 = B1 ∧ c1 = e1 := by injection q1 with q1 q2 q3; exact ⟨q1, q3⟩
 have R1 := zA hr1
 have C1 := zA hc1
 clear hc1 hr1 q1
 obtain ⟨B2, e2, q2, hc2, hr2⟩ := h2
 obtain ⟨rfl, rfl⟩ : A2 = B2 ∧ c2 = e2 := by injection q2 with q1 q2 q3; exact ⟨q1, q3⟩
 have R2 := zA hr2
 have C2 := zA hc2
 clear hc2 hr2 q2
 obtain ⟨B3, e3, q3, hc3, hr3⟩ := h3
 obtain ⟨rfl, rfl⟩ : A3 = B3 ∧ c3 = e3 := by injection q3 with q1 q2 q3; exact ⟨q1, q3⟩
 have R3 := zA hr3
 have C3 := zA hc3
 clear hc3 hr3 q3
 have HBY := zA hby
 have HS := zA hs
 have hbuild : ∀ w1 : World, Below w.heap.size w w1 → Calls Tryz.prog 83 #[.int .i64 b, .slice A1 ls.length c1] w1 fun e w' => ∃ v, e = .returned (.tuple #[v, .int .i64 (build b ls).2]) ∧ (∃ (bb : Int) (l1 : List (List Int)) (l2 : List Int) (l3 : List (List Int)) (D1 D2 D3 : Option Addr) (d1 d2 d3 : Nat), v = .agg #[.int .i64 bb, .slice D1 l1.length d1, .slice D2 l2.length d2, .slice D3 l3.length d3] ∧ (bb, l1, l2, l3) = (build b ls).1 ∧ Kd.C (Kd.int .i64) w' D2 l2.length l2 ∧ Kd.C HelpII.kI w' D3 l3.length l3) ∧ Grew w1 w' := fun w1 hw => by
  refine (build_calls b A1 c1 ls w1 (Kd.C_below R1.out hw) C1.out HBY.out HS.out).mono ?_
  rintro e w' ⟨v, rfl, hM, hg⟩
  refine ⟨v, rfl, ?_, hg⟩
  have hK := HelpSeg.tSeg.K_of_M hM
  generalize (build b ls).1 = R at hK ⊢
  obtain ⟨bb, l1, l2, l3⟩ := R
  obtain ⟨l, rfl, u0, r0, rfl, g0, u1, r1, rfl, g1, u2, r2, rfl, g2, u3, rfl, g3⟩ := hK
  have g0 : u0 = .int .i64 bb := g0
  subst g0
  obtain ⟨D1, d1, rfl, _, _⟩ := g1
  obtain ⟨D2, d2, rfl, _, hC2⟩ := g2
  obtain ⟨D3, d3, rfl, _, hC3⟩ := g3
  exact ⟨bb, l1, l2, l3, D1, D2, D3, d1, d2, d3, rfl, rfl, hC2, hC3⟩
 clear hby hs
 cases hf : fits b ls with
 | false =>
  have hv : valid (b, ls, K, Ps) = false := by
   show (fits b ls && _) = false
   rw [hf]
   rfl
  have HCO := zA (show (build b ls).2 = 4 from by rw [build_bad hf])
  rw [hv]
  clear hv hf
  go_enter Tryz.func82, Tryz.ntmps82
  go_wp2_with (first | ((with_reducible refine gate_dst (N := 1) rfl ?_); refine box_event ?hg (N := 1) ?hd (cs := #[.int .i64 b, .slice A1 ls.length c1, .slice A2 K.length c2, .slice A3 Ps.length c3]) (t := 59) ?hr ?_; (case hd => rfl); (case hg => rfl); (case hr => first | (go_simp; done) | (go_simp; rfl)); intro gs hg_ w1 hbx hbb; clear hg_; have BKs := zA hbx; have HB := zA hbb; have hc0 : (w1).cell? ⟨gs, 0, none⟩ = some (.int .i64 b) := (blk_cell hbx 0).trans rfl; have fhc0 := blk_frozen hbx 0; have hc1 : (w1).cell? ⟨gs, 1, none⟩ = some (.slice A1 ls.length c1) := (blk_cell hbx 1).trans rfl; have fhc1 := blk_frozen hbx 1; have hc2 : (w1).cell? ⟨gs, 2, none⟩ = some (.slice A2 K.length c2) := (blk_cell hbx 2).trans rfl; have fhc2 := blk_frozen hbx 2; have hc3 : (w1).cell? ⟨gs, 3, none⟩ = some (.slice A3 Ps.length c3) := (blk_cell hbx 3).trans rfl; have fhc3 := blk_frozen hbx 3; clear hbx hbb))
  go_at_call 83
  refine (hbuild w1 HB.out).mono ?_
  rintro e w2 ⟨v2, rfl, hM, hg2⟩
  rw [HCO.out]
  obtain ⟨bb, l1, l2, l3, D1, D2, D3, d1, d2, d3, ev, hCC⟩ := hM
  subst ev
  have HCC := zA hCC
  have HG2 := zA hg2
  have BK2 := zA (blk_below (g := gs) BKs.out hg2)
  have BK3 := zA (blk_alloc BK2.out (.cells #[.int .i64 bb, .slice D1 l1.length d1, .slice D2 l2.length d2, .slice D3 l3.length d3] 59 (0, 0)))
  clear hCC hg2
  have hd0 : (w2).cell? ⟨gs, 0, none⟩ = some (.int .i64 b) := (blk_cell BK2.out 0).trans rfl
  have fhd0 := blk_frozen BK2.out 0
  have hd1 : (w2).cell? ⟨gs, 1, none⟩ = some (.slice A1 ls.length c1) := (blk_cell BK2.out 1).trans rfl
  have fhd1 := blk_frozen BK2.out 1
  have hd2 : (w2).cell? ⟨gs, 2, none⟩ = some (.slice A2 K.length c2) := (blk_cell BK2.out 2).trans rfl
  have fhd2 := blk_frozen BK2.out 2
  have hd3 : (w2).cell? ⟨gs, 3, none⟩ = some (.slice A3 Ps.length c3) := (blk_cell BK2.out 3).trans rfl
  have fhd3 := blk_frozen BK2.out 3
  have he0 : (w2.alloc (.cells #[.int .i64 bb, .slice D1 l1.length d1, .slice D2 l2.length d2, .slice D3 l3.length d3] 59 (0, 0))).cell? ⟨gs, 0, none⟩ = some (.int .i64 b) := (blk_cell BK3.out 0).trans rfl
  have fhe0 := blk_frozen BK3.out 0
  have he1 : (w2.alloc (.cells #[.int .i64 bb, .slice D1 l1.length d1, .slice D2 l2.length d2, .slice D3 l3.length d3] 59 (0, 0))).cell? ⟨gs, 1, none⟩ = some (.slice A1 ls.length c1) := (blk_cell BK3.out 1).trans rfl
  have fhe1 := blk_frozen BK3.out 1
  have he2 : (w2.alloc (.cells #[.int .i64 bb, .slice D1 l1.length d1, .slice D2 l2.length d2, .slice D3 l3.length d3] 59 (0, 0))).cell? ⟨gs, 2, none⟩ = some (.slice A2 K.length c2) := (blk_cell BK3.out 2).trans rfl
  have fhe2 := blk_frozen BK3.out 2
  have he3 : (w2.alloc (.cells #[.int .i64 bb, .slice D1 l1.length d1, .slice D2 l2.length d2, .slice D3 l3.length d3] 59 (0, 0))).cell? ⟨gs, 3, none⟩ = some (.slice A3 Ps.length c3) := (blk_cell BK3.out 3).trans rfl
  have fhe3 := blk_frozen BK3.out 3
  go_wp2
  go_ret
  exact ⟨rfl, grew_trans (grew_trans HB.out HG2.out) (below_alloc (Below.refl _ _) _)⟩
 | true =>
  have HBD := zA (show (build b ls).1 = (b, ls, keys ls, (keys ls).map (post b ls ls.length)) from by unfold build; rw [hf]; rfl)
  have HCO := zA (show (build b ls).2 = 0 from by unfold build; rw [hf]; rfl)
  have HV := zA (show valid (b, ls, K, Ps) = (decide (K = keys ls) && decide (Ps = (keys ls).map (post b ls ls.length))) from by show (fits b ls && _) = _; rw [hf]; rfl)
  have HGR := zA (show ∀ W w2 : World, Below w.heap.size w W → W = w2 → True from fun _ _ _ _ => trivial)
  rw [HV.out]
  clear hf
  go_enter Tryz.func82, Tryz.ntmps82
  go_wp2_with (first | ((with_reducible refine gate_dst (N := 1) rfl ?_); refine box_event ?hg (N := 1) ?hd (cs := #[.int .i64 b, .slice A1 ls.length c1, .slice A2 K.length c2, .slice A3 Ps.length c3]) (t := 59) ?hr ?_; (case hd => rfl); (case hg => rfl); (case hr => first | (go_simp; done) | (go_simp; rfl)); intro gs hg_ w1 hbx hbb; clear hg_; have BKs := zA hbx; have HB := zA hbb; have hc0 : (w1).cell? ⟨gs, 0, none⟩ = some (.int .i64 b) := (blk_cell hbx 0).trans rfl; have fhc0 := blk_frozen hbx 0; have hc1 : (w1).cell? ⟨gs, 1, none⟩ = some (.slice A1 ls.length c1) := (blk_cell hbx 1).trans rfl; have fhc1 := blk_frozen hbx 1; have hc2 : (w1).cell? ⟨gs, 2, none⟩ = some (.slice A2 K.length c2) := (blk_cell hbx 2).trans rfl; have fhc2 := blk_frozen hbx 2; have hc3 : (w1).cell? ⟨gs, 3, none⟩ = some (.slice A3 Ps.length c3) := (blk_cell hbx 3).trans rfl; have fhc3 := blk_frozen hbx 3; clear hbx hbb))
  go_at_call 83
  refine (hbuild w1 HB.out).mono ?_
  rintro e w2 ⟨v2, rfl, hM, hg2⟩
  rw [HCO.out]
  obtain ⟨bb, l1, l2, l3, D1, D2, D3, d1, d2, d3, ev, hCC⟩ := hM
  subst ev
  have HCC := zA hCC
  have HG2 := zA hg2
  have BK2 := zA (blk_below (g := gs) BKs.out hg2)
  have BK3 := zA (blk_alloc BK2.out (.cells #[.int .i64 bb, .slice D1 l1.length d1, .slice D2 l2.length d2, .slice D3 l3.length d3] 59 (0, 0)))
  clear hCC hg2
  have hd0 : (w2).cell? ⟨gs, 0, none⟩ = some (.int .i64 b) := (blk_cell BK2.out 0).trans rfl
  have fhd0 := blk_frozen BK2.out 0
  have hd1 : (w2).cell? ⟨gs, 1, none⟩ = some (.slice A1 ls.length c1) := (blk_cell BK2.out 1).trans rfl
  have fhd1 := blk_frozen BK2.out 1
  have hd2 : (w2).cell? ⟨gs, 2, none⟩ = some (.slice A2 K.length c2) := (blk_cell BK2.out 2).trans rfl
  have fhd2 := blk_frozen BK2.out 2
  have hd3 : (w2).cell? ⟨gs, 3, none⟩ = some (.slice A3 Ps.length c3) := (blk_cell BK2.out 3).trans rfl
  have fhd3 := blk_frozen BK2.out 3
  have he0 : (w2.alloc (.cells #[.int .i64 bb, .slice D1 l1.length d1, .slice D2 l2.length d2, .slice D3 l3.length d3] 59 (0, 0))).cell? ⟨gs, 0, none⟩ = some (.int .i64 b) := (blk_cell BK3.out 0).trans rfl
  have fhe0 := blk_frozen BK3.out 0
  have he1 : (w2.alloc (.cells #[.int .i64 bb, .slice D1 l1.length d1, .slice D2 l2.length d2, .slice D3 l3.length d3] 59 (0, 0))).cell? ⟨gs, 1, none⟩ = some (.slice A1 ls.length c1) := (blk_cell BK3.out 1).trans rfl
  have fhe1 := blk_frozen BK3.out 1
  have he2 : (w2.alloc (.cells #[.int .i64 bb, .slice D1 l1.length d1, .slice D2 l2.length d2, .slice D3 l3.length d3] 59 (0, 0))).cell? ⟨gs, 2, none⟩ = some (.slice A2 K.length c2) := (blk_cell BK3.out 2).trans rfl
  have fhe2 := blk_frozen BK3.out 2
  have he3 : (w2.alloc (.cells #[.int .i64 bb, .slice D1 l1.length d1, .slice D2 l2.length d2, .slice D3 l3.length d3] 59 (0, 0))).cell? ⟨gs, 3, none⟩ = some (.slice A3 Ps.length c3) := (blk_cell BK3.out 3).trans rfl
  have fhe3 := blk_frozen BK3.out 3
  go_wp2_with fail
  have HL := zA (HCC.out.1.trans HBD.out)
  have HL2 := zA (show l2 = keys ls from congrArg (fun q => q.2.2.1) HL.out)
  have HL3 := zA (show l3 = (keys ls).map (post b ls ls.length) from congrArg (fun q => q.2.2.2) HL.out)
  have HW := zA (grew_trans (grew_trans HB.out HG2.out) (below_alloc (Below.refl _ w2) (.cells #[.int .i64 bb, .slice D1 l1.length d1, .slice D2 l2.length d2, .slice D3 l3.length d3] 59 (0, 0))))
  have heq := equal_calls A2 D2 c2 d2 K l2 (w2.alloc (.cells #[.int .i64 bb, .slice D1 l1.length d1, .slice D2 l2.length d2, .slice D3 l3.length d3] 59 (0, 0))) (Kd.C_below R2.out HW.out) (Kd.C_alloc HCC.out.2.1 _) zq1
  have HBT := zA (show (w2.alloc (.cells #[.int .i64 bb, .slice D1 l1.length d1, .slice D2 l2.length d2, .slice D3 l3.length d3] 59 (0, 0))).heap[w2.heap.size]? = some (.cells #[.int .i64 bb, .slice D1 l1.length d1, .slice D2 l2.length d2, .slice D3 l3.length d3] 59 (0, 0)) from heap_alloc_new w2 _)
  by_cases hKe : K = l2
  ·rw [decide_eq_true hKe] at heq
   have HR1 := zA (show decide (K = keys ls) = true from decide_eq_true (hKe.trans HL2.out))
   clear hKe
   refine heq.mono ?_
   rintro e w4 ⟨rfl, hb4⟩
   have BK4 := zA (blk_below (g := gs) BK3.out hb4)
   have BT4 := zA (blk_below (g := w2.heap.size) HBT.out hb4)
   have HW4 := zA (grew_trans HW.out hb4)
   have hD3 := Kd.C_below (Kd.C_alloc HCC.out.2.2 (.cells #[.int .i64 bb, .slice D1 l1.length d1, .slice D2 l2.length d2, .slice D3 l3.length d3] 59 (0, 0))) hb4
   have heqF := equalF_calls A3 D3 c3 d3 Ps l3 w4 (Kd.C_below R3.out HW4.out) hD3 zq1 zq1
   have hg0 : w4.cell? ⟨gs, 0, none⟩ = some (.int .i64 b) := (blk_cell BK4.out 0).trans rfl
   have fhg0 := blk_frozen BK4.out 0
   have hg1 : w4.cell? ⟨gs, 1, none⟩ = some (.slice A1 ls.length c1) := (blk_cell BK4.out 1).trans rfl
   have fhg1 := blk_frozen BK4.out 1
   have hg2 : w4.cell? ⟨gs, 2, none⟩ = some (.slice A2 K.length c2) := (blk_cell BK4.out 2).trans rfl
   have fhg2 := blk_frozen BK4.out 2
   have hg3 : w4.cell? ⟨gs, 3, none⟩ = some (.slice A3 Ps.length c3) := (blk_cell BK4.out 3).trans rfl
   have fhg3 := blk_frozen BK4.out 3
   have ht0 : w4.cell? ⟨w2.heap.size, 0, none⟩ = some (.int .i64 bb) := (blk_cell BT4.out 0).trans rfl
   have fht0 := blk_frozen BT4.out 0
   have ht1 : w4.cell? ⟨w2.heap.size, 1, none⟩ = some (.slice D1 l1.length d1) := (blk_cell BT4.out 1).trans rfl
   have fht1 := blk_frozen BT4.out 1
   have ht2 : w4.cell? ⟨w2.heap.size, 2, none⟩ = some (.slice D2 l2.length d2) := (blk_cell BT4.out 2).trans rfl
   have fht2 := blk_frozen BT4.out 2
   have ht3 : w4.cell? ⟨w2.heap.size, 3, none⟩ = some (.slice D3 l3.length d3) := (blk_cell BT4.out 3).trans rfl
   have fht3 := blk_frozen BT4.out 3
   go_wp2_with (go_at_call 101; refine heqF.mono ?_; rintro e w5 ⟨rfl, hb5⟩)
   go_ret
   refine ⟨?_, grew_trans HW4.out hb5⟩
   rw [HR1.out, Bool.true_and, ← HL3.out]
   rfl
  ·rw [decide_eq_false hKe] at heq
   have HR1 := zA (show decide (K = keys ls) = false from decide_eq_false (fun e => hKe (e.trans HL2.out.symm)))
   clear hKe
   refine heq.mono ?_
   rintro e w4 ⟨rfl, hb4⟩
   go_wp2
   go_ret
   refine ⟨?_, grew_trans HW.out hb4⟩
   rw [HR1.out, Bool.false_and]
   rfl
end Go.Proofs.YtmgmdnmfalepkaaGreat.SegOk

namespace Go.Proofs.YtmgmdnmfalepkaaGreat.Decode
open Go.RowKit Go.Proofs.YtmgmdnmfalepkaaGreatW.PrintWords Go.Proofs.YtmgmdnmfalepkaaGreatW.PrintMore Go.Proofs.YtmgmdnmfalepkaaGreat.Kit Go.Proofs.YtmgmdnmfalepkaaGreat.PKit Go.Proofs.YtmgmdnmfalepkaaGreat.Ty Go.Proofs.YtmgmdnmfalepkaaGreat.PSeg Go.Proofs.YtmgmdnmfalepkaaGreat.PEnc Go.Proofs.YtmgmdnmfalepkaaGreat.PDec Go.Proofs.YtmgmdnmfalepkaaGreat.Build Go.Proofs.YtmgmdnmfalepkaaGreat.EncB Go.Proofs.YtmgmdnmfalepkaaGreat.HelpBB Go.Proofs.YtmgmdnmfalepkaaGreat.HelpSeg Go.Proofs.YtmgmdnmfalepkaaGreat.DecA Go.Proofs.YtmgmdnmfalepkaaGreat.DecB
set_option linter.unusedVariables false
theorem dec_none {b : List Int} (h : implP b = none) : dec b = ((0, [], [], []), 5) := by
 unfold dec decBy
 rw [h]
theorem dec_bad {b : List Int} {base : Int} {ls : List (List Int)} (h : implP b = some (base, ls)) (hf : ¬ (fits base ls = true ∧ code (seg base ls) = b)) : dec b = ((0, [], [], []), 5) := by
 unfold dec decBy
 rw [h]
 exact if_neg hf
theorem dec_good {b : List Int} {base : Int} {ls : List (List Int)} (h : implP b = some (base, ls)) (hf : fits base ls = true ∧ code (seg base ls) = b) : dec b = (seg base ls, 0) := by
 unfold dec decBy
 rw [h]
 exact if_pos hf
theorem implP_some {b : List Int} {base : Int} {ls : List (List Int)} (hb : ∀ x ∈ b, 0 ≤ x ∧ x ≤ 255) (h : implP b = some (base, ls)) : 0 ≤ base ∧ base < 34359738368 ∧ ls.length ≤ 1000 ∧ ls.length + totalB ls ≤ b.length ∧ Bytes ls := by
 unfold implP at h
 split at h
 ·obtain ⟨h1, h2, h3, h4, h5⟩ := rdHead_some 5 (b.drop 2) base ls (bytes_drop hb 2) h
  rw [List.length_drop] at h4
  exact ⟨h1, Int.lt_of_lt_of_le h2 zq15, h3, zq1, h5⟩
 ·cases h
theorem gen_world (P : World → Prop) (w : World) (h : ∀ W, W = w → P W) : P w := h w rfl
theorem seg_form {w : World} {b : Int} {ls : List (List Int)} {v : Value} (h : tSeg.K w (seg b ls) v) : ∃ (A1 : Option Addr) (c1 : Nat) (A2 : Option Addr) (c2 : Nat) (A3 : Option Addr) (c3 : Nat), v = .agg #[.int .i64 b, .slice A1 ls.length c1, .slice A2 (keys ls).length c2, .slice A3 (keys ls).length c3] := by
 obtain ⟨A1, c1, A2, c2, A3, c3, e⟩ := HelpSeg.form h
 refine ⟨A1, c1, A2, c2, A3, c3, ?_⟩
 have e2 : ((keys ls).map (post b ls ls.length)).length = (keys ls).length := List.length_map ..
 rw [e]
 show Value.agg #[.int .i64 b, .slice A1 ls.length c1, .slice A2 (keys ls).length c2, .slice A3 ((keys ls).map (post b ls ls.length)).length c3] = _
 rw [e2]
theorem seg_parts {w : World} {b : Int} {ls : List (List Int)} {K : List Int} {Ps : List (List Int)} {v0 v1 v2 v3 : Value} (h : tSeg.K w (b, ls, K, Ps) (.agg #[v0, v1, v2, v3])) : HelpBB.tBB.K w ls v1 ∧ HelpI.tI.K w K v2 ∧ HelpII.tII.K w Ps v3 := by
 obtain ⟨l, el, u0, r0, e0, g0, u1, r1, e1, g1, u2, r2, e2, g2, u3, e3, g3⟩ := h
 subst e3 e2 e1 e0
 injection el with el
 have el' := congrArg Array.toList el
 simp only [List.cons.injEq, and_true] at el'
 obtain ⟨rfl, rfl, rfl, rfl⟩ := el'
 exact ⟨g1, g2, g3⟩
theorem enc_seg (base : Int) (ls : List (List Int)) (D1 D2 D3 : Option Addr) (d1 d2 d3 : Nat) (W : World) (h : tSeg.K W (seg base ls) (.agg #[.int .i64 base, .slice D1 ls.length d1, .slice D2 (keys ls).length d2, .slice D3 (keys ls).length d3])) (hok : EncOk (seg base ls)) (hby : Bytes ls) (h0 : 0 ≤ base) :
  Calls Tryz.prog 75 #[.agg #[.int .i64 base, .slice D1 ls.length d1, .slice D2 (keys ls).length d2, .slice D3 (keys ls).length d3]] W fun e w' => ∃ v', e = .returned v' ∧ HelpB.tB.M w' W.heap.size (fun _ => True) (code (seg base ls)) v' ∧ Grew W w' := by
 obtain ⟨bn, rfl⟩ : ∃ n : Nat, base = (n : Int) := ⟨base.toNat, zq1⟩
 obtain ⟨k1, k2, k3⟩ := seg_parts h
 have e : ((keys ls).map (post (bn : Int) ls ls.length)).length = (keys ls).length := List.length_map ..
 have h := encoded_calls bn ls (keys ls) ((keys ls).map (post (bn : Int) ls ls.length)) D1 D2 D3 d1 d2 d3 W k1 k2 (by rw [e]; exact k3) hok hby
 rw [e] at h
 exact h
set_option maxRecDepth 100000 in
set_option maxHeartbeats 4000000 in
theorem decode_calls (A : Option Addr) (c : Nat) (b : List Int) (w : World) (hr : Kd.C (Kd.int .u8) w A b.length b) (hc : b.length ≤ c) (hb : ∀ x ∈ b, 0 ≤ x ∧ x ≤ 255) (hl : b.length ≤ 1048576) :
  Calls Tryz.prog 70 #[.slice A b.length c] w fun e w' => ∃ v, e = .returned (.tuple #[v, .int .i64 (dec b).2]) ∧ tSeg.M w' w.heap.size (fun _ => True) (dec b).1 v ∧ Grew w w' := by
 have huI := Tryz.underlying59
 have huD := Tryz.underlying114
 have huR := Tryz.underlying112
 have HR := zA hr
 have HC := zA hc
 have HY := zA hb
 clear hr hc hb
 go_enter Tryz.func70, Tryz.ntmps70
 go_wp2_with (first | ((with_reducible refine gate_dst (N := 2) rfl ?_); refine box_event ?hg (N := 2) ?hd (cs := #[.int .i64 0, .slice none 0 0, .slice none 0 0, .slice none 0 0]) (t := 59) ?hr ?_; (case hd => rfl); (case hg => rfl); (case hr => first | (go_simp; done) | (go_simp; rfl)); intro g1 hg_ w1 hbx hbb; have BKg1 := zA hbx; have GEg1 := zA (show w.heap.size ≤ g1 from Nat.le_of_eq hg_.symm); have HBw1 := zA hbb; clear hg_ hbb; have hg1c0 : w1.cell? ⟨g1, 0, none⟩ = some (.int .i64 0) := (blk_cell hbx 0).trans rfl; have hg1f0 := blk_frozen hbx 0; have hg1c1 : w1.cell? ⟨g1, 1, none⟩ = some (.slice none 0 0) := (blk_cell hbx 1).trans rfl; have hg1f1 := blk_frozen hbx 1; have hg1c2 : w1.cell? ⟨g1, 2, none⟩ = some (.slice none 0 0) := (blk_cell hbx 2).trans rfl; have hg1f2 := blk_frozen hbx 2; have hg1c3 : w1.cell? ⟨g1, 3, none⟩ = some (.slice none 0 0) := (blk_cell hbx 3).trans rfl; have hg1f3 := blk_frozen hbx 3; clear hbx) | ((with_reducible refine gate_dst (N := 10) rfl ?_); refine box_event ?hg (N := 10) ?hd (cs := #[.slice A b.length c, .bool false, .int .i64 0, .slice none 0 0]) (t := 114) ?hr ?_; (case hd => rfl); (case hg => rfl); (case hr => first | (go_simp; done) | (go_simp; rfl)); intro gd hg_ w2 hbx hbb; have BKgd := zA hbx; have GEgd := zA (show w1.heap.size ≤ gd from Nat.le_of_eq hg_.symm); have HBw2 := zA hbb; clear hg_ hbb; have hgdc0 : w2.cell? ⟨gd, 0, none⟩ = some (.slice A b.length c) := (blk_cell hbx 0).trans rfl; have hgdf0 := blk_frozen hbx 0; have hgdc1 : w2.cell? ⟨gd, 1, none⟩ = some (.bool false) := (blk_cell hbx 1).trans rfl; have hgdf1 := blk_frozen hbx 1; have hgdc2 : w2.cell? ⟨gd, 2, none⟩ = some (.int .i64 0) := (blk_cell hbx 2).trans rfl; have hgdf2 := blk_frozen hbx 2; have hgdc3 : w2.cell? ⟨gd, 3, none⟩ = some (.slice none 0 0) := (blk_cell hbx 3).trans rfl; have hgdf3 := blk_frozen hbx 3; clear hbx))
 have hst : St w1 w2 gd b false (.int .i64 0) (.slice none 0 0) := ⟨GEgd.out, HBw2.out, A, c, BKgd.out, Kd.C_below HR.out HBw1.out, HC.out⟩
 have hh := head_calls gd b w1 w2 hst HY.out hl
 clear hst
 go_at_call 92
 refine hh.mono ?_
 rintro e w3 ⟨hF, hB3⟩
 have BK1 := zA (blk_below (g := g1) BKg1.out hB3)
 have HB3 := zA (show Below w.heap.size w w3 from below_step HBw1.out hB3)
 have GL1 := zA (blk_lt BKg1.out)
 clear hh hgdc0 hgdf0 hgdc1 hgdf1 hgdc2 hgdf2 hgdc3 hgdf3 hg1c0 hg1f0 hg1c1 hg1f1 hg1c2 hg1f2 hg1c3 hg1f3
 have k1c0 : w3.cell? ⟨g1, 0, none⟩ = some (.int .i64 0) := (blk_cell BK1.out 0).trans rfl; have k1f0 := blk_frozen BK1.out 0; have k1c1 : w3.cell? ⟨g1, 1, none⟩ = some (.slice none 0 0) := (blk_cell BK1.out 1).trans rfl; have k1f1 := blk_frozen BK1.out 1; have k1c2 : w3.cell? ⟨g1, 2, none⟩ = some (.slice none 0 0) := (blk_cell BK1.out 2).trans rfl; have k1f2 := blk_frozen BK1.out 2; have k1c3 : w3.cell? ⟨g1, 3, none⟩ = some (.slice none 0 0) := (blk_cell BK1.out 3).trans rfl; have k1f3 := blk_frozen BK1.out 3
 unfold DecB.Found at hF
 cases hP : implP b with
 | none =>
  rw [hP] at hF
  have hF : e = .returned (.bool false) := hF
  subst hF
  have HD := zA (dec_none hP)
  clear hP
  go_wp2
  refine bodyPost_ret (results_ct rfl _ _ g1 59 #[.int .i64 0, .slice none 0 0, .slice none 0 0, .slice none 0 0] (0, 0) _ rfl (by (with_reducible repeat (first | refine blk_drewN ?_ _ | refine blk_drew ?_ | refine blk_alloc ?_ _)); refine blk_put (cs := #[.int .i64 0, .slice none 0 0, .slice none 0 0, .slice none 0 0]) ?_ 3 _ rfl; (with_reducible repeat (first | refine blk_drewN ?_ _ | refine blk_drew ?_ | refine blk_alloc ?_ _)); refine blk_put (cs := #[.int .i64 0, .slice none 0 0, .slice none 0 0, .slice none 0 0]) ?_ 2 _ rfl; (with_reducible repeat (first | refine blk_drewN ?_ _ | refine blk_drew ?_ | refine blk_alloc ?_ _)); refine blk_put (cs := #[.int .i64 0, .slice none 0 0, .slice none 0 0, .slice none 0 0]) ?_ 1 _ rfl; (with_reducible repeat (first | refine blk_drewN ?_ _ | refine blk_drew ?_ | refine blk_alloc ?_ _)); refine blk_put (cs := #[.int .i64 0, .slice none 0 0, .slice none 0 0, .slice none 0 0]) ?_ 0 _ rfl; (with_reducible repeat (first | refine blk_drewN ?_ _ | refine blk_drew ?_ | refine blk_alloc ?_ _)); exact BK1.out) Tryz.underlying59 rfl zq5) rfl ?_
  rw [HD.out]
  exact ⟨_, rfl, bad_M _ _, below_set (below_set (below_set (below_set (HB3.out) GEg1.out) GEg1.out) GEg1.out) GEg1.out⟩
 | some q =>
  obtain ⟨base, ls⟩ := q
  rw [hP] at hF
  obtain ⟨he, r, f3, hS3, hK3⟩ := hF
  subst he
  obtain ⟨A3, c3, rfl, hc3, hr3⟩ := hK3
  obtain ⟨b0, b1, l1, l2, l3⟩ := implP_some HY.out hP
  have hS3 : St w1 w3 gd r false (.int .i64 base) (.slice A3 ls.length c3) := hS3
  obtain ⟨hd1, hf1, hd2, hf2, hd3, hf3⟩ := hS3.cell
  have HS3 := zA hS3
  have hs : smallBB ls := by show ls.length + totalB ls ≤ 1048576; omega
  have HBY := zA l3
  have HR3 := zA hr3
  have HC3 := zA hc3
  have HP := zA hP
  have hbuild : ∀ W, Below w3.heap.size w3 W → Calls Tryz.prog 83 #[.int .i64 base, .slice A3 ls.length c3] W fun e w' => ∃ v, e = .returned (.tuple #[v, .int .i64 (build base ls).2]) ∧ tSeg.M w' W.heap.size (fun _ => True) (build base ls).1 v ∧ Grew W w' := fun W hW => build_calls base A3 c3 ls W (Kd.C_below HR3.out hW) HC3.out HBY.out hs
  have HBU := zA hbuild
  clear hbuild hS3 hr3 hc3 l3 hs hP
  have HKP := zA (show ∀ W, Below w3.heap.size w3 W → (W.cell? ⟨gd, 2, none⟩ = some (.int .i64 base) ∧ W.frozen? ⟨gd, 2, none⟩ = false ∧ W.cell? ⟨gd, 3, none⟩ = some (.slice A3 ls.length c3) ∧ W.frozen? ⟨gd, 3, none⟩ = false) from fun W hW => by
   obtain ⟨_, _, x1, x2, x3, x4⟩ := (HS3.out.below hW).cell
   exact ⟨x1, x2, x3, x4⟩)
  have HZ3 := zA HB3.out.size
  have HG1 := zA (blk_lt BK1.out)
  cases hft : fits base ls with
  | false =>
   have HBV := zA (build_bad hft)
   have HD := zA (dec_bad HP.out (fun h => by have := h.1; rw [hft] at this; cases this))
   clear hft
   go_wp2_with fail
   go_region_held3 (fun W_ => W_.cell? ⟨gd, 2, none⟩ = some (.int .i64 base) ∧ W_.frozen? ⟨gd, 2, none⟩ = false ∧ W_.cell? ⟨gd, 3, none⟩ = some (.slice A3 ls.length c3) ∧ W_.frozen? ⟨gd, 3, none⟩ = false) (exact HKP.out _ (by repeat (first | exact Below.refl _ _ | exact HG5.out | apply below_alloc | apply below_drew1 | apply pw_below_drewN | refine below_set ?_ (by first | exact Nat.le_refl _ | exact HZ5.out)))) (first | (go_at_call 83; refine (HBU.out _ ?hb).mono ?_; (case hb => repeat (first | exact Below.refl _ _ | apply below_alloc | apply below_drew1 | apply pw_below_drewN)); rintro e w5 ⟨v5, rfl, hM5, hg5⟩; rw [HBV.out] at hM5; have HG5 := zA (show Below w3.heap.size w3 w5 from grew_trans zq3 hg5); have HZ5 := zA HG5.out.size; obtain ⟨D1, d1, D2, d2, D3, d3, ev5⟩ := HelpSeg.form (tSeg.K_of_M hM5); subst ev5; rw [HBV.out]; first | (have BKz := zA (show w5.heap[w3.heap.size]? = some (.cells #[.int .i64 0, .slice none 0 0, .slice none 0 0, .slice none 0 0] 59 (0, 0)) from blk_below (by (with_reducible repeat (first | refine blk_drewN ?_ _ | refine blk_drew ?_)); exact heap_alloc_new _ _) hg5); have zc0 : w5.cell? ⟨w3.heap.size, 0, none⟩ = some (.int .i64 0) := (blk_cell BKz.out 0).trans rfl; have zf0 := blk_frozen BKz.out 0; have zc1 : w5.cell? ⟨w3.heap.size, 1, none⟩ = some (.slice none 0 0) := (blk_cell BKz.out 1).trans rfl; have zf1 := blk_frozen BKz.out 1; have zc2 : w5.cell? ⟨w3.heap.size, 2, none⟩ = some (.slice none 0 0) := (blk_cell BKz.out 2).trans rfl; have zf2 := blk_frozen BKz.out 2; have zc3 : w5.cell? ⟨w3.heap.size, 3, none⟩ = some (.slice none 0 0) := (blk_cell BKz.out 3).trans rfl; have zf3 := blk_frozen BKz.out 3) | (have BKz := zA (heap_alloc_new w5 (.cells #[.int .i64 0, .slice none 0 0, .slice none 0 0, .slice none 0 0] 59 (0, 0))); have zc0 : (w5.alloc (.cells #[.int .i64 0, .slice none 0 0, .slice none 0 0, .slice none 0 0] 59 (0, 0))).cell? ⟨w5.heap.size, 0, none⟩ = some (.int .i64 0) := (blk_cell BKz.out 0).trans rfl; have zf0 := blk_frozen BKz.out 0; have zc1 : (w5.alloc (.cells #[.int .i64 0, .slice none 0 0, .slice none 0 0, .slice none 0 0] 59 (0, 0))).cell? ⟨w5.heap.size, 1, none⟩ = some (.slice none 0 0) := (blk_cell BKz.out 1).trans rfl; have zf1 := blk_frozen BKz.out 1; have zc2 : (w5.alloc (.cells #[.int .i64 0, .slice none 0 0, .slice none 0 0, .slice none 0 0] 59 (0, 0))).cell? ⟨w5.heap.size, 2, none⟩ = some (.slice none 0 0) := (blk_cell BKz.out 2).trans rfl; have zf2 := blk_frozen BKz.out 2; have zc3 : (w5.alloc (.cells #[.int .i64 0, .slice none 0 0, .slice none 0 0, .slice none 0 0] 59 (0, 0))).cell? ⟨w5.heap.size, 3, none⟩ = some (.slice none 0 0) := (blk_cell BKz.out 3).trans rfl; have zf3 := blk_frozen BKz.out 3); clear hg5 hM5))
   all_goals
    refine gen_world _ _ ?_
    intro W9 hW9
    have HB9 := zA (show Below w3.heap.size w3 W9 from by rw [hW9]; repeat (first | exact HG5.out | apply below_alloc | refine below_set ?_ (by first | exact Nat.le_refl _ | exact HZ5.out)))
    clear hW9
    clear zc0 zf0 zc1 zf1 zc2 zf2 zc3 zf3 BKz
    clear hd1 hf1 hd2 hf2 hd3 hf3 k1c0 k1f0 k1c1 k1f1 k1c2 k1f2 k1c3 k1f3
    have BK19 := zA (blk_below (g := g1) BK1.out HB9.out)
    have k2c0 : W9.cell? ⟨g1, 0, none⟩ = some (.int .i64 0) := (blk_cell BK19.out 0).trans rfl; have k2f0 := blk_frozen BK19.out 0; have k2c1 : W9.cell? ⟨g1, 1, none⟩ = some (.slice none 0 0) := (blk_cell BK19.out 1).trans rfl; have k2f1 := blk_frozen BK19.out 1; have k2c2 : W9.cell? ⟨g1, 2, none⟩ = some (.slice none 0 0) := (blk_cell BK19.out 2).trans rfl; have k2f2 := blk_frozen BK19.out 2; have k2c3 : W9.cell? ⟨g1, 3, none⟩ = some (.slice none 0 0) := (blk_cell BK19.out 3).trans rfl; have k2f3 := blk_frozen BK19.out 3
    go_wp2
    refine bodyPost_ret (results_ct rfl _ _ g1 59 #[.int .i64 0, .slice none 0 0, .slice none 0 0, .slice none 0 0] (0, 0) _ rfl (by (with_reducible repeat (first | refine blk_drewN ?_ _ | refine blk_drew ?_ | refine blk_alloc ?_ _)); refine blk_put (cs := #[.int .i64 0, .slice none 0 0, .slice none 0 0, .slice none 0 0]) ?_ 3 _ rfl; (with_reducible repeat (first | refine blk_drewN ?_ _ | refine blk_drew ?_ | refine blk_alloc ?_ _)); refine blk_put (cs := #[.int .i64 0, .slice none 0 0, .slice none 0 0, .slice none 0 0]) ?_ 2 _ rfl; (with_reducible repeat (first | refine blk_drewN ?_ _ | refine blk_drew ?_ | refine blk_alloc ?_ _)); refine blk_put (cs := #[.int .i64 0, .slice none 0 0, .slice none 0 0, .slice none 0 0]) ?_ 1 _ rfl; (with_reducible repeat (first | refine blk_drewN ?_ _ | refine blk_drew ?_ | refine blk_alloc ?_ _)); refine blk_put (cs := #[.int .i64 0, .slice none 0 0, .slice none 0 0, .slice none 0 0]) ?_ 0 _ rfl; (with_reducible repeat (first | refine blk_drewN ?_ _ | refine blk_drew ?_ | refine blk_alloc ?_ _)); exact BK19.out) Tryz.underlying59 rfl zq5) rfl ?_
    rw [HD.out]
    exact ⟨_, rfl, bad_M _ _, below_set (below_set (below_set (below_set (below_step HB3.out HB9.out) GEg1.out) GEg1.out) GEg1.out) GEg1.out⟩
  | true =>
   have HBV := zA (show build base ls = (seg base ls, 0) from by unfold build; rw [hft]; rfl)
   have HOK := zA (encOk_seg hft HBY.out)
   have HF := zA hft
   clear hft
   go_wp2_with fail
   go_region_held3 (fun W_ => W_.cell? ⟨gd, 2, none⟩ = some (.int .i64 base) ∧ W_.frozen? ⟨gd, 2, none⟩ = false ∧ W_.cell? ⟨gd, 3, none⟩ = some (.slice A3 ls.length c3) ∧ W_.frozen? ⟨gd, 3, none⟩ = false) (exact HKP.out _ (by repeat (first | exact Below.refl _ _ | exact HG5.out | apply below_alloc | apply below_drew1 | apply pw_below_drewN | refine below_set ?_ (by first | exact Nat.le_refl _ | exact HZ5.out)))) (first | (go_at_call 83; refine (HBU.out _ ?hb).mono ?_; (case hb => repeat (first | exact Below.refl _ _ | apply below_alloc | apply below_drew1 | apply pw_below_drewN)); rintro e w5 ⟨v5, rfl, hM5, hg5⟩; rw [HBV.out] at hM5; have HG5 := zA (show Below w3.heap.size w3 w5 from grew_trans zq3 hg5); have HZ5 := zA HG5.out.size; obtain ⟨D1, d1, D2, d2, D3, d3, ev5⟩ := seg_form (tSeg.K_of_M hM5); subst ev5; rw [HBV.out]; first | (have BKz := zA (show w5.heap[w3.heap.size]? = some (.cells #[.int .i64 0, .slice none 0 0, .slice none 0 0, .slice none 0 0] 59 (0, 0)) from blk_below (by (with_reducible repeat (first | refine blk_drewN ?_ _ | refine blk_drew ?_)); exact heap_alloc_new _ _) hg5); have zc0 : w5.cell? ⟨w3.heap.size, 0, none⟩ = some (.int .i64 0) := (blk_cell BKz.out 0).trans rfl; have zf0 := blk_frozen BKz.out 0; have zc1 : w5.cell? ⟨w3.heap.size, 1, none⟩ = some (.slice none 0 0) := (blk_cell BKz.out 1).trans rfl; have zf1 := blk_frozen BKz.out 1; have zc2 : w5.cell? ⟨w3.heap.size, 2, none⟩ = some (.slice none 0 0) := (blk_cell BKz.out 2).trans rfl; have zf2 := blk_frozen BKz.out 2; have zc3 : w5.cell? ⟨w3.heap.size, 3, none⟩ = some (.slice none 0 0) := (blk_cell BKz.out 3).trans rfl; have zf3 := blk_frozen BKz.out 3; have HM5 := zA (show tSeg.M w5 w3.heap.size (fun k => w3.heap.size < k) (seg base ls) _ from tSeg.M_mono (fun k hk => by have h1 : (w3.alloc (.cells #[.int .i64 0, .slice none 0 0, .slice none 0 0, .slice none 0 0] 59 (0, 0))).heap.size ≤ k := hk.1; simp only [World.size_alloc] at h1; exact h1) (tSeg.M_lower (show w3.heap.size ≤ (w3.alloc (.cells #[.int .i64 0, .slice none 0 0, .slice none 0 0, .slice none 0 0] 59 (0, 0))).heap.size from by simp only [World.size_alloc]; exact Nat.le_succ _) (Ty.M_beyond (T := tSeg) hM5)))) | (have BKz := zA (heap_alloc_new w5 (.cells #[.int .i64 0, .slice none 0 0, .slice none 0 0, .slice none 0 0] 59 (0, 0))); have zc0 : (w5.alloc (.cells #[.int .i64 0, .slice none 0 0, .slice none 0 0, .slice none 0 0] 59 (0, 0))).cell? ⟨w5.heap.size, 0, none⟩ = some (.int .i64 0) := (blk_cell BKz.out 0).trans rfl; have zf0 := blk_frozen BKz.out 0; have zc1 : (w5.alloc (.cells #[.int .i64 0, .slice none 0 0, .slice none 0 0, .slice none 0 0] 59 (0, 0))).cell? ⟨w5.heap.size, 1, none⟩ = some (.slice none 0 0) := (blk_cell BKz.out 1).trans rfl; have zf1 := blk_frozen BKz.out 1; have zc2 : (w5.alloc (.cells #[.int .i64 0, .slice none 0 0, .slice none 0 0, .slice none 0 0] 59 (0, 0))).cell? ⟨w5.heap.size, 2, none⟩ = some (.slice none 0 0) := (blk_cell BKz.out 2).trans rfl; have zf2 := blk_frozen BKz.out 2; have zc3 : (w5.alloc (.cells #[.int .i64 0, .slice none 0 0, .slice none 0 0, .slice none 0 0] 59 (0, 0))).cell? ⟨w5.heap.size, 3, none⟩ = some (.slice none 0 0) := (blk_cell BKz.out 3).trans rfl; have zf3 := blk_frozen BKz.out 3; have HM5 := zA (show tSeg.M w5 w3.heap.size (fun k => w3.heap.size ≤ k ∧ k < w5.heap.size) (seg base ls) _ from Ty.M_beyond (T := tSeg) hM5)); clear hg5 hM5))
   all_goals
    refine gen_world _ _ ?_
    intro W9 hW9
    have HB9 := zA (show Below w3.heap.size w3 W9 from by rw [hW9]; repeat (first | exact HG5.out | apply below_alloc | refine below_set ?_ (by first | exact Nat.le_refl _ | exact HZ5.out)))
    first | (have M9 := zA (show tSeg.M W9 w3.heap.size (fun k => w3.heap.size ≤ k) (seg base ls) (.agg #[.int .i64 base, .slice D1 ls.length d1, .slice D2 (keys ls).length d2, .slice D3 (keys ls).length d3]) from by rw [hW9]; exact tSeg.M_mono (fun k hk => Nat.le_of_lt hk) (Ty.M_set (T := tSeg) (Ty.M_set (T := tSeg) (Ty.M_set (T := tSeg) (Ty.M_set (T := tSeg) HM5.out (fun k hk e => by omega) _) (fun k hk e => by omega) _) (fun k hk e => by omega) _) (fun k hk e => by omega) _)); obtain ⟨k9, hk9⟩ : ∃ k9, k9 = w3.heap.size := ⟨_, rfl⟩; rw [← hk9]; have BK9 := zA (show W9.heap[k9]? = some (.cells #[.int .i64 base, .slice D1 ls.length d1, .slice D2 (keys ls).length d2, .slice D3 (keys ls).length d3] 59 (0, 0)) from by rw [hW9, hk9]; refine blk_put (cs := #[.int .i64 base, .slice D1 ls.length d1, .slice D2 (keys ls).length d2, .slice none 0 0]) ?_ 3 _ rfl; refine blk_put (cs := #[.int .i64 base, .slice D1 ls.length d1, .slice none 0 0, .slice none 0 0]) ?_ 2 _ rfl; refine blk_put (cs := #[.int .i64 base, .slice none 0 0, .slice none 0 0, .slice none 0 0]) ?_ 1 _ rfl; refine blk_put (cs := #[.int .i64 0, .slice none 0 0, .slice none 0 0, .slice none 0 0]) ?_ 0 _ rfl; exact BKz.out)) | (have M9 := zA (show tSeg.M W9 w3.heap.size (fun k => w3.heap.size ≤ k) (seg base ls) (.agg #[.int .i64 base, .slice D1 ls.length d1, .slice D2 (keys ls).length d2, .slice D3 (keys ls).length d3]) from by rw [hW9]; exact tSeg.M_mono (fun k hk => hk.1) (Ty.M_below (T := tSeg) HM5.out (below_alloc (Below.refl _ _) _))); obtain ⟨k9, hk9⟩ : ∃ k9, k9 = w5.heap.size := ⟨_, rfl⟩; rw [← hk9]; have BK9 := zA (show W9.heap[k9]? = some (.cells #[.int .i64 base, .slice D1 ls.length d1, .slice D2 (keys ls).length d2, .slice D3 (keys ls).length d3] 59 (0, 0)) from by rw [hW9, hk9]; exact heap_alloc_new _ _))
    clear hW9 hk9
    clear zc0 zf0 zc1 zf1 zc2 zf2 zc3 zf3 BKz
    clear hd1 hf1 hd2 hf2 hd3 hf3 k1c0 k1f0 k1c1 k1f1 k1c2 k1f2 k1c3 k1f3 HBV HKP
    have BK19 := zA (blk_below (g := g1) BK1.out HB9.out)
    have k2c0 : W9.cell? ⟨g1, 0, none⟩ = some (.int .i64 0) := (blk_cell BK19.out 0).trans rfl; have k2f0 := blk_frozen BK19.out 0; have k2c1 : W9.cell? ⟨g1, 1, none⟩ = some (.slice none 0 0) := (blk_cell BK19.out 1).trans rfl; have k2f1 := blk_frozen BK19.out 1; have k2c2 : W9.cell? ⟨g1, 2, none⟩ = some (.slice none 0 0) := (blk_cell BK19.out 2).trans rfl; have k2f2 := blk_frozen BK19.out 2; have k2c3 : W9.cell? ⟨g1, 3, none⟩ = some (.slice none 0 0) := (blk_cell BK19.out 3).trans rfl; have k2f3 := blk_frozen BK19.out 3; have s9c0 : W9.cell? ⟨k9, 0, none⟩ = some (.int .i64 base) := (blk_cell BK9.out 0).trans rfl; have s9f0 := blk_frozen BK9.out 0; have s9c1 : W9.cell? ⟨k9, 1, none⟩ = some (.slice D1 ls.length d1) := (blk_cell BK9.out 1).trans rfl; have s9f1 := blk_frozen BK9.out 1; have s9c2 : W9.cell? ⟨k9, 2, none⟩ = some (.slice D2 (keys ls).length d2) := (blk_cell BK9.out 2).trans rfl; have s9f2 := blk_frozen BK9.out 2; have s9c3 : W9.cell? ⟨k9, 3, none⟩ = some (.slice D3 (keys ls).length d3) := (blk_cell BK9.out 3).trans rfl; have s9f3 := blk_frozen BK9.out 3
    have henc := enc_seg base ls D1 D2 D3 d1 d2 d3 W9 (tSeg.K_of_M M9.out) HOK.out HBY.out b0
    go_wp2_with fail
    go_at_call 75
    refine henc.mono ?_
    rintro e w6 ⟨vE, rfl, hME, hgE⟩
    obtain ⟨E, ec, rfl, hEc, hEr⟩ := HelpB.tB.K_of_M hME
    have M6 := zA (Ty.M_below (T := tSeg) M9.out hgE)
    have BK16 := zA (blk_below (g := g1) BK19.out hgE)
    have BK96 := zA (blk_below (g := k9) BK9.out hgE)
    have HB6 := zA (show Below w.heap.size w w6 from below_step (below_step HB3.out HB9.out) hgE)
    have heq := Tryz.bytes_Equal (.slice E (code (seg base ls)).length ec) (.slice A b.length c) (code (seg base ls)) b w6 (Kd.C_string Tryz.underlying25 Tryz.underlying5 Tryz.underlying9 hEr) (Kd.C_string Tryz.underlying25 Tryz.underlying5 Tryz.underlying9 (Kd.C_below HR.out HB6.out))
    have hsb := same_bytes (code (seg base ls)) b (code_bytes HBY.out) HY.out
    rw [Go.Lib.strOfNums_toList, Go.Lib.strOfNums_toList] at hsb
    rw [hsb] at heq
    clear hsb henc hME hgE hEc hEr k2c0 k2f0 k2c1 k2f1 k2c2 k2f2 k2c3 k2f3 s9c0 s9f0 s9c1 s9f1 s9c2 s9f2 s9c3 s9f3 M9 BK9 BK19
    have k6c0 : w6.cell? ⟨g1, 0, none⟩ = some (.int .i64 0) := (blk_cell BK16.out 0).trans rfl; have k6f0 := blk_frozen BK16.out 0; have k6c1 : w6.cell? ⟨g1, 1, none⟩ = some (.slice none 0 0) := (blk_cell BK16.out 1).trans rfl; have k6f1 := blk_frozen BK16.out 1; have k6c2 : w6.cell? ⟨g1, 2, none⟩ = some (.slice none 0 0) := (blk_cell BK16.out 2).trans rfl; have k6f2 := blk_frozen BK16.out 2; have k6c3 : w6.cell? ⟨g1, 3, none⟩ = some (.slice none 0 0) := (blk_cell BK16.out 3).trans rfl; have k6f3 := blk_frozen BK16.out 3; have t9c0 : w6.cell? ⟨k9, 0, none⟩ = some (.int .i64 base) := (blk_cell BK96.out 0).trans rfl; have t9f0 := blk_frozen BK96.out 0; have t9c1 : w6.cell? ⟨k9, 1, none⟩ = some (.slice D1 ls.length d1) := (blk_cell BK96.out 1).trans rfl; have t9f1 := blk_frozen BK96.out 1; have t9c2 : w6.cell? ⟨k9, 2, none⟩ = some (.slice D2 (keys ls).length d2) := (blk_cell BK96.out 2).trans rfl; have t9f2 := blk_frozen BK96.out 2; have t9c3 : w6.cell? ⟨k9, 3, none⟩ = some (.slice D3 (keys ls).length d3) := (blk_cell BK96.out 3).trans rfl; have t9f3 := blk_frozen BK96.out 3
    by_cases hcb : code (seg base ls) = b
    ·rw [decide_eq_true hcb] at heq
     have HD := zA (dec_good HP.out ⟨HF.out, hcb⟩)
     clear hcb
     go_wp2_with (go_at_call 93; refine heq.mono ?_; rintro e w7 ⟨rfl, hw7⟩; subst hw7)
     refine bodyPost_ret (results_ct rfl _ _ g1 59 #[.int .i64 base, .slice D1 ls.length d1, .slice D2 (keys ls).length d2, .slice D3 (keys ls).length d3] (0, 0) _ rfl (by (with_reducible repeat (first | refine blk_drewN ?_ _ | refine blk_drew ?_ | refine blk_alloc ?_ _)); refine blk_put (cs := #[.int .i64 base, .slice D1 ls.length d1, .slice D2 (keys ls).length d2, .slice none 0 0]) ?_ 3 _ rfl; (with_reducible repeat (first | refine blk_drewN ?_ _ | refine blk_drew ?_ | refine blk_alloc ?_ _)); refine blk_put (cs := #[.int .i64 base, .slice D1 ls.length d1, .slice none 0 0, .slice none 0 0]) ?_ 2 _ rfl; (with_reducible repeat (first | refine blk_drewN ?_ _ | refine blk_drew ?_ | refine blk_alloc ?_ _)); refine blk_put (cs := #[.int .i64 base, .slice none 0 0, .slice none 0 0, .slice none 0 0]) ?_ 1 _ rfl; (with_reducible repeat (first | refine blk_drewN ?_ _ | refine blk_drew ?_ | refine blk_alloc ?_ _)); refine blk_put (cs := #[.int .i64 0, .slice none 0 0, .slice none 0 0, .slice none 0 0]) ?_ 0 _ rfl; (with_reducible repeat (first | refine blk_drewN ?_ _ | refine blk_drew ?_ | refine blk_alloc ?_ _)); exact BK16.out) Tryz.underlying59 rfl zq5) rfl ?_
     rw [HD.out]
     refine ⟨_, rfl, ?_, below_set (below_set (below_set (below_set (HB6.out) GEg1.out) GEg1.out) GEg1.out) GEg1.out⟩
     have hg1 := HG1.out
     exact tSeg.M_mono (fun _ _ => trivial) (Ty.M_set (T := tSeg) (Ty.M_set (T := tSeg) (Ty.M_set (T := tSeg) (Ty.M_set (T := tSeg) (tSeg.M_lower HZ3.out M6.out) (fun k hk e => by omega) _) (fun k hk e => by omega) _) (fun k hk e => by omega) _) (fun k hk e => by omega) _)
    ·rw [decide_eq_false hcb] at heq
     have HD := zA (dec_bad HP.out (fun h => hcb h.2))
     clear hcb
     go_wp2_with (go_at_call 93; refine heq.mono ?_; rintro e w7 ⟨rfl, hw7⟩; subst hw7)
     refine bodyPost_ret (results_ct rfl _ _ g1 59 #[.int .i64 0, .slice none 0 0, .slice none 0 0, .slice none 0 0] (0, 0) _ rfl (by (with_reducible repeat (first | refine blk_drewN ?_ _ | refine blk_drew ?_ | refine blk_alloc ?_ _)); refine blk_put (cs := #[.int .i64 0, .slice none 0 0, .slice none 0 0, .slice none 0 0]) ?_ 3 _ rfl; (with_reducible repeat (first | refine blk_drewN ?_ _ | refine blk_drew ?_ | refine blk_alloc ?_ _)); refine blk_put (cs := #[.int .i64 0, .slice none 0 0, .slice none 0 0, .slice none 0 0]) ?_ 2 _ rfl; (with_reducible repeat (first | refine blk_drewN ?_ _ | refine blk_drew ?_ | refine blk_alloc ?_ _)); refine blk_put (cs := #[.int .i64 0, .slice none 0 0, .slice none 0 0, .slice none 0 0]) ?_ 1 _ rfl; (with_reducible repeat (first | refine blk_drewN ?_ _ | refine blk_drew ?_ | refine blk_alloc ?_ _)); refine blk_put (cs := #[.int .i64 0, .slice none 0 0, .slice none 0 0, .slice none 0 0]) ?_ 0 _ rfl; (with_reducible repeat (first | refine blk_drewN ?_ _ | refine blk_drew ?_ | refine blk_alloc ?_ _)); exact BK16.out) Tryz.underlying59 rfl zq5) rfl ?_
     rw [HD.out]
     exact ⟨_, rfl, bad_M _ _, below_set (below_set (below_set (below_set (HB6.out) GEg1.out) GEg1.out) GEg1.out) GEg1.out⟩
end Go.Proofs.YtmgmdnmfalepkaaGreat.Decode

namespace Go.Proofs.YtmgmdnmfalepkaaGreat.Sto
open Go.RowKit Go.Proofs.YtmgmdnmfalepkaaGreatW.PrintWords Go.Proofs.YtmgmdnmfalepkaaGreatW.PrintMore Go.Proofs.YtmgmdnmfalepkaaGreat.Kit Go.Proofs.YtmgmdnmfalepkaaGreat.PKit Go.Proofs.YtmgmdnmfalepkaaGreat.Ty Go.Proofs.YtmgmdnmfalepkaaGreat.PSeg Go.Proofs.YtmgmdnmfalepkaaGreat.PEnc Go.Proofs.YtmgmdnmfalepkaaGreat.PDec Go.Proofs.YtmgmdnmfalepkaaGreat.PSta Go.Proofs.YtmgmdnmfalepkaaGreat.HelpBB Go.Proofs.YtmgmdnmfalepkaaGreat.HelpSeg
open Go.Proofs.YtmgmdnmfalepkaaGreat.Build hiding code ans
set_option linter.unusedVariables false
set_option linter.unusedSimpArgs false
theorem enc_calls (s : SegT) (v : Value) (W : World) (h : tSeg.K W s v) (hG : Good s) :
  Calls Tryz.prog 75 #[v] W fun e w' => ∃ v', e = .returned v' ∧ Kd.R (Kd.int .u8) 5 w' W.heap.size (fun _ => True) v' (code s) ∧ Grew W w' := by
 obtain ⟨b, ls, K, Ps⟩ := s
 obtain ⟨h1, h2, h3⟩ := hG
 have h2 : fits b ls = true := h2
 have h3 : Bytes ls := h3
 have h1 : (b, ls, K, Ps) = seg b ls := h1
 rw [h1] at h ⊢
 obtain ⟨A1, c1, A2, c2, A3, c3, rfl⟩ := Decode.seg_form h
 exact Decode.enc_seg b ls A1 A2 A3 c1 c2 c3 W h (encOk_seg h2 h3) h3 (fits_parts h2).1
set_option maxRecDepth 100000 in
set_option maxHeartbeats 8000000 in
theorem state_calls (g : Nat) (Av Ao : Option Addr) (cv co n m : Nat) (ss : List SegT) (op : List (List Int)) (hn : n = ss.length) (hm : m = op.length) (w : World) (hg : w.heap[g]? = some (.cells #[.slice Av n cv, .slice Ao m co] 79 (0, 0))) (hs : Kd.C kSeg w Av ss.length ss) (ho : Kd.C kB w Ao op.length op) (hc : op.length ≤ co) (hso : smallBB op) (hG : ∀ s ∈ ss, Good s) (hL : ss.length ≤ 1048576) :
  Calls Tryz.prog 50 #[.pointer (some ⟨g, 0, none⟩)] w fun e w' => ∃ v', e = .returned v' ∧ HelpSta.tSta.M w' w.heap.size (fun _ => True) (ss.map code, op) v' ∧ Grew w w' := by
 subst hn hm
 have huS := Tryz.underlying79
 have huI := Tryz.underlying59
 have huT := Tryz.underlying27
 have HS := zA hs
 have HO := zA ho
 have HGD := zA hG
 have HGG := zA hg
 have hcp := fun (W : World) (hW : Below w.heap.size w W) => copy_calls Ao co op W (Kd.C_below HO.out hW) hc hso
 have HCP := zA hcp
 clear hs ho hG hg hcp
 go_enter Tryz.func50, Tryz.ntmps50
 go_wp2_with (((with_reducible refine gate_dst (N := 2) rfl ?_); refine box_event ?hg (N := 2) ?hd (cs := #[.slice none 0 0, .slice none 0 0]) (t := 27) ?hr ?_; (case hd => rfl); (case hg => rfl); (case hr => first | (go_simp; done) | (go_simp; rfl)); intro gr hg_ w1 hbx hbb; have BKgr := zA hbx; have GEgr := zA (show w.heap.size ≤ gr from Nat.le_of_eq hg_.symm); have GLgr := zA (blk_lt hbx); have HBw1 := zA hbb; clear hg_ hbb; obtain ⟨⟨hgrc0, hgrf0⟩, ⟨hgrc1, hgrf1⟩⟩ := cells2 hbx; clear hbx; obtain ⟨⟨q0, r0⟩, ⟨q1, r1⟩⟩ := cells2 (blk_below HGG.out HBw1.out)))
 go_at_call 74
 refine (HCP.out _ HBw1.out).mono ?_
 rintro e w2 ⟨v2, rfl, hS2, hb2⟩
 obtain ⟨A1, c1, rfl⟩ := Kd.S_slice hS2
 have HC2 := zA hS2
 have HB12 := zA hb2
 have HB2 := zA (show Below w.heap.size w w2 from grew_trans HBw1.out hb2)
 replace BKgr := zA (blk_below BKgr.out hb2)
 clear hS2 hb2 hgrc0 hgrf0 hgrc1 hgrf1 q0 r0 q1 r1
 obtain ⟨⟨q0, r0⟩, ⟨q1, r1⟩⟩ := cells2 (blk_alloc (blk_below HGG.out HB2.out) (.cells #[.slice none 0 0, .slice A1 op.length c1] 27 (0, 0)))
 go_wp2_with fail
 obtain ⟨gs, hgs⟩ : ∃ g_, g_ = w2.heap.size := ⟨_, rfl⟩
 obtain ⟨w3, hw3⟩ : ∃ w_, w_ = w2.alloc (.cells #[.slice none 0 0, .slice A1 op.length c1] 27 (0, 0)) := ⟨_, rfl⟩
 rw [← hw3] at q0 r0 q1 r1
 rw [← hw3, ← hgs]
 have BKgs := zA (show w3.heap[gs]? = some (.cells #[.slice none 0 0, .slice A1 op.length c1] 27 (0, 0)) from by rw [hw3, hgs]; exact blk_new w2 _)
 have hb3 : Below w2.heap.size w2 w3 := by rw [hw3]; exact below_alloc (Below.refl _ _) _
 have GS := zA (show w2.heap.size ≤ gs from Nat.le_of_eq hgs.symm)
 have HB23 := zA hb3
 have HB3 := zA (show Below w.heap.size w w3 from grew_trans HB2.out hb3)
 replace BKgr := zA (blk_below BKgr.out hb3)
 have GSL := zA (blk_lt BKgs.out)
 have NEGR := zA (show gr ≠ gs from fun e => by have h1 := GLgr.out; have h2 := GS.out; have h3 := HB12.out.size; omega)
 replace HC2 := zA (show HelpBB.tBB.M w3 w.heap.size (fun k => gr < k ∧ k < gs) op (.slice A1 op.length c1) from
  HelpBB.tBB.M_mono (fun k hk => by have h1 := hk.2.2; have h2 := GS.out; have h3 := hk.2.1; have h4 := GLgr.out; exact ⟨zq1, zq1⟩) (Ty.M_below (T := HelpBB.tBB) (HelpBB.tBB.M_lower HBw1.out.size (HelpBB.tBB.M_bound HC2.out)) HB23.out))
 clear hgs hw3 hb3
 go_loopg [17] ss.length (fun gg s17 wr => ∃ (i : Nat) (Ap : Option Addr) (cp : Nat), i ≤ ss.length ∧ ss.length - i ≤ gg ∧ s17 = .int .i64 (i : Int) ∧ Aside0 (wr.heap[gs]? = some (.cells #[.slice Ap i cp, .slice A1 op.length c1] 27 (0, 0))) ∧ Aside0 (Kd.S kB 25 wr w.heap.size (fun k => w3.heap.size ≤ k) (.slice Ap i cp) ((ss.take i).map code)) ∧ Aside0 (∀ k, (Value.slice Ap i cp).ownBlock = some k → w3.heap.size ≤ k) ∧ Aside0 (Kept w3 wr (fun k => k = gs)) ∧ Aside0 (Below w.heap.size w wr))
 case atStart => exact ⟨0, none, 0, zq1, zq1, rfl, BKgs, ⟨Kd.S_nil _ _ _ _ _⟩, ⟨fun k hk => by simp [Value.ownBlock] at hk⟩, ⟨Kept.refl _ _⟩, HB3⟩
 case round =>
  obtain ⟨i, Ap, cp, hi, hgg, rfl, HG, HR, HOW, HK, HB⟩ := hrel
  by_cases hlt : i < ss.length
  ·have hltz : (i : Int) < (ss.length : Int) := by omega
   obtain ⟨ad, B1, d1, B2, d2, B3, d3, rfl, hcc, hT⟩ := at_seg HS.out i hlt
   obtain ⟨hc0, hc1, hc2, hc3⟩ := cells_later HB.out hcc
   have hGs := HGD.out _ (getD_mem ss zS i hlt)
   have HTK := zA (show (ss.take (i + 1)).map code = (ss.take i).map code ++ [code (ss.getD i zS)] from by rw [seg_snoc ss i hlt, List.map_append]; rfl)
   have HEN := zA (fun (W : World) (hW : Below w.heap.size w W) => enc_calls (ss.getD i zS) _ W (tSeg.K_below hW hT) hGs)
   clear hcc hT hGs
   generalize ss.getD i zS = s at hc0 hc1 hc2 hc3 HTK HEN
   go_wp2_with fail
   obtain ⟨gq, hgq⟩ : ∃ g_, g_ = wr.heap.size := ⟨_, rfl⟩
   obtain ⟨wq, hwq⟩ : ∃ w_, w_ = wr.alloc (.cells #[.int .i64 s.1, .slice B1 s.2.1.length d1, .slice B2 s.2.2.1.length d2, .slice B3 s.2.2.2.length d3] 59 (0, 0)) := ⟨_, rfl⟩
   rw [← hwq, ← hgq]
   have BKgq := zA (show wq.heap[gq]? = some (.cells #[.int .i64 s.1, .slice B1 s.2.1.length d1, .slice B2 s.2.2.1.length d2, .slice B3 s.2.2.2.length d3] 59 (0, 0)) from by rw [hwq, hgq]; exact blk_new wr _)
   have hbq : Below wr.heap.size wr wq := by rw [hwq]; exact below_alloc (Below.refl _ _) _
   have BKS := zA (blk_below HG.out hbq)
   have HBQ := zA (show Below w.heap.size w wq from grew_trans HB.out hbq)
   have HZQ := zA (show wr.heap.size < wq.heap.size ∧ gq < wq.heap.size from ⟨by have h := blk_lt BKgq.out; rw [hgq] at h; exact h, blk_lt BKgq.out⟩)
   have HHQ := zA (show ∀ k, k < wr.heap.size → wq.heap[k]? = wr.heap[k]? from fun k hk => hbq.block k hk)
   have HRQ := zA (show HelpBB.tBB.M wq w.heap.size (fun k => w3.heap.size ≤ k ∧ k < wq.heap.size) ((ss.take i).map code) (.slice Ap i cp) from HelpBB.tBB.M_mono (fun k hk => ⟨hk.1, hk.2.2⟩) (HelpBB.tBB.M_bound (Ty.M_below (T := HelpBB.tBB) HR.out hbq)))
   have HOL := zA (fun k (h : (Value.slice Ap i cp).ownBlock = some k) => Kd.S_lt HR.out k h)
   clear hgq hwq hbq hc0 hc1 hc2 hc3
   obtain ⟨⟨xc0, xf0⟩, ⟨xc1, xf1⟩, ⟨xc2, xf2⟩, ⟨xc3, xf3⟩⟩ := cells4 BKgq.out
   obtain ⟨⟨yc0, yf0⟩, ⟨yc1, yf1⟩⟩ := cells2 BKS.out
   go_region_law (first | (go_simp; go_at_call 75; (with_reducible refine (HEN.out _ (grew_trans HBQ.out zq3)).mono ?_); rintro e w5 ⟨v5, rfl, hM5, hb5⟩; obtain ⟨A5, c5, rfl⟩ := Kd.R_slice hM5; have HB5 := zA (show Below wq.heap.size wq w5 from grew_trans zq3 hb5); have HM5 := zA (show Kd.R (Kd.int .u8) 5 w5 wq.heap.size (fun _ => True) (.slice A5 (code s).length c5) (code s) from Kd.R_lower hM5 (below_size zq3)); have BK5 := zA (blk_below BKS.out HB5.out); obtain ⟨⟨zc0, zf0⟩, ⟨zc1, zf1⟩⟩ := cells2 BK5.out; obtain ⟨⟨tc0, tf0⟩, ⟨tc1, tf1⟩⟩ := cells2 (blk_alloc BK5.out (.cells #[.slice A5 (code s).length c5] 25 (0, 0))); clear hM5 hb5) | (refine Kd.S_append_step kB (w0 := w) w.heap.size (by first | rfl | simp [Region.wanted]) (.tmp 22) (.tmp 25) 22 25 (.slice none 0 0) 24 zq16 Tryz.underlying22 infoBB rfl zq15 zq1 (.slice Ap i cp) ((ss.take i).map code) (code s) [.slice A5 (code s).length c5] (fun k => w3.heap.size ≤ k) (fun k_ => some k_ = (.slice A5 (code s).length c5 : Value).ownBlock) zq28 zq28 ?aP ?aK ?aF ?aO ?aB ?aS ?aL ?_; (case aP => exact Kd.M_row (Kd.R_lower (Kd.R_below (Kd.R_tight rfl HM5.out) zq3) HBQ.out.size)); (case aK => exact fun k hk => ⟨by have h1 := Kd.R_base HM5.out k hk.symm; have h2 := HK.out.1; have h3 := HZQ.out.1; omega, fun e => by have h1 := Kd.R_base HM5.out k hk.symm; have h2 := HOL.out k e.symm; have h3 := HZQ.out.1; omega⟩); (case aF => exact fun k hk => by have h1 := HK.out.1; have h2 := HZQ.out.1; have h3 := HB5.out.size; have h4 : w5.heap.size ≤ k := Nat.le_trans (below_size zq3) hk; omega); (case aO => exact HelpBB.tBB.M_mono (fun k hk => ⟨hk.1, fun e => by have h1 := Kd.R_base HM5.out k e.symm; have h2 := hk.2; omega⟩) (Ty.M_below (T := HelpBB.tBB) (Ty.M_below (T := HelpBB.tBB) HRQ.out HB5.out) zq3)); (case aB => exact grew_trans (grew_trans HBQ.out HB5.out) zq3); (case aS => exact (grew_trans (grew_trans HBQ.out HB5.out) zq3).size); (case aL => (rw [List.length_map, List.length_take]; omega)); intro v6 w6 hO6 hB6 hg6 hat6; obtain ⟨A6, c6, e6⟩ := Kd.S_slice hO6; rw [show ((ss.take i).map code ++ [code s]).length = i + 1 from by rw [List.length_append, List.length_map, List.length_take, List.length_singleton]; omega] at e6; subst e6; have HG6 := zA (show w5.grownBy w6 (Value.slice Ap i cp).ownBlock from hg6); have BK6 := zA (blk_grown (g := gs) BK5.out HG6.out (fun e => by have h1 := HOW.out _ e.symm; have h2 := GSL.out; omega)); obtain ⟨⟨rc0, rf0⟩, ⟨rc1, rf1⟩⟩ := cells2 BK6.out; have HO6 := zA hO6; have HB6 := zA hB6; clear hO6 hB6 hg6 hat6))
   all_goals
    go_wp2
    go_roundg (ss.length - (i + 1))
    case measure => omega
    case rel =>
     have hz1 := HK.out.1
     have hz2 := HZQ.out.1
     have hz3 := HB5.out.size
     have hz6 := HG6.out.size
     refine ⟨i + 1, A6, c6, zq1, zq1, by go_num, ⟨blk_put (cs := #[.slice Ap i cp, .slice A1 op.length c1]) BK6.out 0 _ rfl⟩, ⟨?_⟩, ⟨fun k hk => (Kd.S_R HO6.out).1 k hk⟩, ⟨?_⟩, ⟨below_set HB6.out (Nat.le_trans HB2.out.size GS.out)⟩⟩
     ·rw [HTK.out]
      exact Ty.M_set (T := HelpBB.tBB) HO6.out (fun k hk e => by have h1 : w3.heap.size ≤ k := hk; have h2 := GSL.out; omega) _
     ·exact ⟨by simp [World.setCell]; omega, fun k hk hne => (Below.heap_setCell w6 ⟨gs, 0, none⟩ _ k hne).trans ((HG6.out.block k zq1 (fun e => by have h1 := HOW.out _ e.symm; omega)).trans ((HB5.out.block k zq1).trans ((HHQ.out k zq1).trans (HK.out.2 k hk hne))))⟩
  ·have hltz : ¬ (i : Int) < (ss.length : Int) := by omega
   obtain rfl : i = ss.length := by omega
   have hR := HR.out
   rw [List.take_length] at hR
   have HS9 := zA hR
   have BR9 := zA (blk_kept BKgr.out HK.out NEGR.out)
   clear hR HR
   obtain ⟨⟨pc0, pf0⟩, ⟨pc1, pf1⟩⟩ := cells2 HG.out
   obtain ⟨⟨uc0, uf0⟩, ⟨uc1, uf1⟩⟩ := cells2 BR9.out
   have hz9 := HK.out.1
   go_wp2
   refine bodyPost_ret (results_cell_row rfl _ _ gr 27 #[.slice Ap ss.length cp, .slice A1 op.length c1] (0, 0) _ rfl (by (with_reducible repeat (first | refine blk_drewN ?_ _ | refine blk_drew ?_ | refine blk_alloc ?_ _)); refine blk_put (cs := #[.slice Ap ss.length cp, .slice none 0 0]) ?_ 1 _ rfl; (with_reducible repeat (first | refine blk_drewN ?_ _ | refine blk_drew ?_ | refine blk_alloc ?_ _)); refine blk_put (cs := #[.slice none 0 0, .slice none 0 0]) ?_ 0 _ rfl; (with_reducible repeat (first | refine blk_drewN ?_ _ | refine blk_drew ?_ | refine blk_alloc ?_ _)); exact BR9.out) Tryz.underlying27 rfl zq5) rfl ?_
   refine ⟨_, rfl, ?_, below_set (below_set (HB.out) GEgr.out) GEgr.out⟩
   refine HelpSta.tSta.M_mono (fun _ _ => trivial) ⟨[_, _], rfl, Tys.cons_apart (ok1 := fun k => w3.heap.size ≤ k) (ok2 := fun k => gr < k ∧ k < gs) ?_ (Tys.M_one ?_) (fun k h1 h2 => by have h3 := GSL.out; omega)⟩
   ·exact ((Ty.M_set (T := HelpBB.tBB) (Ty.M_set (T := HelpBB.tBB) HS9.out (fun k hk e => by have h1 : w3.heap.size ≤ k := hk; have h2 := GSL.out; have h3 := GLgr.out; have h4 := GS.out; have h5 := HB12.out.size; omega) _) (fun k hk e => by have h1 : w3.heap.size ≤ k := hk; have h2 := GSL.out; have h3 := GLgr.out; have h4 := GS.out; have h5 := HB12.out.size; omega) _))
   ·exact ((Ty.M_set (T := HelpBB.tBB) (Ty.M_set (T := HelpBB.tBB) (Ty.M_kept (T := HelpBB.tBB) HC2.out HK.out (fun k hk e => by have h1 := hk.2; omega)) (fun k hk e => by have h1 := hk.1; omega) _) (fun k hk e => by have h1 := hk.1; omega) _))
end Go.Proofs.YtmgmdnmfalepkaaGreat.Sto

namespace Go.Proofs.YtmgmdnmfalepkaaGreat.PSta
open Go.RowKit Go.Proofs.YtmgmdnmfalepkaaGreatW.PrintWords Go.Proofs.YtmgmdnmfalepkaaGreat.PKit Go.Proofs.YtmgmdnmfalepkaaGreat.PSeg Go.Proofs.YtmgmdnmfalepkaaGreat.PEnc Go.Proofs.YtmgmdnmfalepkaaGreat.PDec Go.Proofs.YtmgmdnmfalepkaaGreat.HelpBB
set_option linter.unusedVariables false
theorem chain_append {base : Int} {ss : List SegT} {bs : List (List Int)} (h : Chain base ss bs) (r : List (List Int)) : segsFrom base (bs ++ r) = (segsFrom (base + ((nlin ss : Nat) : Int)) r).map fun q => ss ++ q := by
 induction h with
 | nil base => simp [nlin]
 | @cons base s b ss bs h t ih =>
  obtain ⟨h1, h2, h3, h4, h5⟩ := h
  show (if (dec b).2 = 0 ∧ (dec b).1.1 = base then (segsFrom (base + ((dec b).1.2.1.length : Int)) (bs ++ r)).map fun q => (dec b).1 :: q else none) = _
  rw [h5, if_pos ⟨rfl, h1⟩, ih]
  have e : base + (s.2.1.length : Int) + ((nlin ss : Nat) : Int) = base + ((nlin (s :: ss) : Nat) : Int) := by
   show _ = base + ((s.2.1.length + nlin ss : Nat) : Int)
   omega
  show ((segsFrom (base + (s.2.1.length : Int) + ((nlin ss : Nat) : Int)) r).map fun q => ss ++ q).map (fun q => s :: q) = _
  rw [e]
  cases segsFrom (base + ((nlin (s :: ss) : Nat) : Int)) r <;> rfl
theorem chain_snoc {base : Int} {ss : List SegT} {bs : List (List Int)} (h : Chain base ss bs) {s : SegT} {b : List Int} (ha : At (base + ((nlin ss : Nat) : Int)) s b) : Chain base (ss ++ [s]) (bs ++ [b]) := by
 induction h with
 | nil base =>
  refine .cons ?_ (.nil _)
  have e : base + ((nlin ([] : List SegT) : Nat) : Int) = base := by simp [nlin]
  rw [e] at ha
  exact ha
 | @cons base s' b' ss bs h t ih =>
  refine .cons h (ih ?_)
  have e : base + ((nlin (s' :: ss) : Nat) : Int) = base + (s'.2.1.length : Int) + ((nlin ss : Nat) : Int) := by
   show base + ((s'.2.1.length + nlin ss : Nat) : Int) = _
   omega
  rw [e] at ha
  exact ha
theorem chain_bounds {base : Int} {ss : List SegT} {bs : List (List Int)} (h : Chain base ss bs) : (ss = [] ∨ base + ((nlin ss : Nat) : Int) ≤ 1000) ∧ (0 ≤ base ∨ ss = []) ∧ ss.length ≤ nlin ss ∧ tots ss ≤ 20000 * ss.length ∧ ∀ s ∈ ss, s = seg s.1 s.2.1 ∧ fits s.1 s.2.1 = true := by
 induction h with
 | nil base => exact ⟨.inl rfl, .inr rfl, by simp [nlin], by simp [tots], fun s hs => by cases hs⟩
 | @cons base s b ss bs h t ih =>
  obtain ⟨h1, h2, h3, h4, h5⟩ := h
  obtain ⟨i1, i2, i3, i4, i5⟩ := ih
  obtain ⟨f1, f2, f3, f4, f5, f6⟩ := fits_parts h2
  rw [h1] at f1 f4
  have el : nlin (s :: ss) = s.2.1.length + nlin ss := rfl
  have et : tots (s :: ss) = totalB s.2.1 + tots ss := rfl
  refine ⟨.inr ?_, .inl f1, by simp only [List.length_cons]; omega, by simp only [List.length_cons]; omega, ?_⟩
  ·rw [el]
   rcases i1 with rfl | i1
   ·simp [nlin]; omega
   ·omega
  ·intro s' hs'
   rcases List.mem_cons.1 hs' with rfl | hs'
   ·exact ⟨h3, h2⟩
   ·exact i5 s' hs'
theorem chain_len0 {ss : List SegT} {bs : List (List Int)} (h : Chain 0 ss bs) : nlin ss ≤ 1000 ∧ ss.length ≤ 1000 ∧ tots ss ≤ 20000000 := by
 obtain ⟨h1, _, h2, h3, _⟩ := chain_bounds h
 have h4 : nlin ss ≤ 1000 := by
  rcases h1 with rfl | h1
  ·simp [nlin]
  ·omega
 exact ⟨h4, zq1, zq1⟩
theorem take_get (bs : List (List Int)) (i : Nat) (hi : i < bs.length) : bs = bs.take i ++ bs.getD i [] :: bs.drop (i + 1) := by
 have h : bs.drop i = bs.getD i [] :: bs.drop (i + 1) := by rw [List.drop_eq_getElem_cons hi]; simp [List.getD, List.getElem?_eq_getElem hi]
 rw [← h, List.take_append_drop]
theorem segs_stop {st : StaT} {acc : List SegT} {i : Nat} (hc : Chain 0 acc (st.1.take i)) (hi : i < st.1.length) (hn : ¬ ((dec (st.1.getD i [])).2 = 0 ∧ (dec (st.1.getD i [])).1.1 = ((nlin acc : Nat) : Int))) : segsOf st = none := by
 have h : segsFrom 0 st.1 = none := by
  rw [take_get st.1 i hi, chain_append hc]
  have e : segsFrom (0 + ((nlin acc : Nat) : Int)) (st.1.getD i [] :: st.1.drop (i + 1)) = none := by
   show (if _ ∧ _ then _ else none) = none
   rw [if_neg (by rw [Int.zero_add]; exact hn)]
  rw [e]
  rfl
 unfold segsOf
 rw [h]
 rfl
theorem segs_next {st : StaT} {acc : List SegT} {i : Nat} (hc : Chain 0 acc (st.1.take i)) (hi : i < st.1.length) (h0 : (dec (st.1.getD i [])).2 = 0) (h1 : (dec (st.1.getD i [])).1.1 = ((nlin acc : Nat) : Int)) : Chain 0 (acc ++ [(dec (st.1.getD i [])).1]) (st.1.take (i + 1)) := by
 have h := dec_at h0
 rw [h1] at h
 have e : st.1.take (i + 1) = st.1.take i ++ [st.1.getD i []] := take_snoc st.1 i hi
 rw [e]
 exact chain_snoc hc (by rw [Int.zero_add]; exact h)
theorem segs_all {st : StaT} {acc : List SegT} (hc : Chain 0 acc st.1) : segsOf st = if plain st.2 = true ∧ nlin acc + st.2.length ≤ 1000 ∧ tots acc + totalB st.2 ≤ 20000 then some acc else none := by
 unfold segsOf
 rw [chain_segs hc]
 rfl
end Go.Proofs.YtmgmdnmfalepkaaGreat.PSta

namespace Go.Proofs.YtmgmdnmfalepkaaGreat.IdxBB
open Go.RowKit Go.Proofs.YtmgmdnmfalepkaaGreatW.PrintWords Go.Proofs.YtmgmdnmfalepkaaGreat.Kit
set_option linter.unusedVariables false
set_option maxHeartbeats 2000000 in
theorem index_calls {α : Type} (d : Kd α) (hs : d.sz = 1) (z : α) (p : α → Bool) (g : Nat) (cap : Array Value) (eg : ∀ args w, (callFunc g args).run Tryz.prog w = .ok (.enter g args) w)
  (A : Option Addr) (c : Nat) (xs : List α) (w : World) (hr : d.C w A xs.length xs) (hp : PredK Tryz.prog d g cap p xs w) :
  Calls Tryz.prog 94 #[.slice A xs.length c, .func (.func g) #[] cap] w fun e w' => e = .returned (.int .i64 (idxB p xs)) ∧ Grew w w' := by
 have hbig : xs.length ≤ 9223372036854775807 := hr.2.1
 have HR := zA hr
 have HP := zA hp
 clear hr hp
 go_enter Tryz.func94, Tryz.ntmps94
 go_wp2
 go_loopg [5, 8] xs.length (fun gg _ s8 wr => ∃ kk : Nat, kk ≤ xs.length ∧ xs.length - kk ≤ gg ∧ s8 = .int .i64 kk ∧ Aside0 (Below w.heap.size w wr) ∧ Aside0 (∀ j, j < kk → p (xs.getD j z) = false))
 case atStart => exact ⟨0, Nat.zero_le _, zq1, rfl, ⟨Below.refl _ w⟩, ⟨fun j hj => absurd hj (Nat.not_lt_zero _)⟩⟩
 case round =>
  obtain ⟨kk, hkk, hg, rfl, BW, HA⟩ := hrel
  by_cases hlt : kk < xs.length
  ·have hltz : (kk : Int) < (xs.length : Int) := by omega
   obtain ⟨ad, u, rfl, hc0, hK⟩ := get_one hs HR.out z kk hlt
   have hcell : wr.cell? (ad.add kk) = some u := (BW.out.cell (World.block_lt_of_cell? w _ hc0)).trans hc0
   have hcall := HP.out wr (xs.getD kk z) u (getD_mem xs z kk hlt) BW.out (d.K_below (pw_grow BW.out) hK)
   clear hc0 hK
   cases hq : p (xs.getD kk z) with
   | true =>
    rw [hq] at hcall
    have HQ := zA hq
    clear hq
    go_wp2_with (go_at_fn g; refine hcall.mono ?_; rintro e w' ⟨rfl, hb'⟩)
    go_ret
    refine ⟨?_, below_then BW.out BW.out.size hb'⟩
    rw [idxB_hit p xs z kk hlt HQ.out HA.out]; rfl
   | false =>
    rw [hq] at hcall
    have HQ := zA hq
    clear hq
    go_wp2_with (go_at_fn g; refine hcall.mono ?_; rintro e w' ⟨rfl, hb'⟩)
    go_roundg (xs.length - (kk + 1))
    case measure => omega
    case rel =>
     refine ⟨kk + 1, zq1, zq1, by go_num, ⟨below_then BW.out BW.out.size hb'⟩, ⟨fun j hj => ?_⟩⟩
     by_cases e : j = kk
     ·subst e
      exact HQ.out
     ·exact HA.out j zq1
  ·have hltz : ¬ (kk : Int) < (xs.length : Int) := by omega
   go_wp2
   go_ret
   refine ⟨?_, BW.out⟩
   rw [idxB_none p xs z (fun j hj => HA.out j zq1)]; rfl
set_option maxHeartbeats 2000000 in
theorem contains_calls {α : Type} (d : Kd α) (hs : d.sz = 1) (z : α) (p : α → Bool) (g : Nat) (cap : Array Value) (eg : ∀ args w, (callFunc g args).run Tryz.prog w = .ok (.enter g args) w)
  (A : Option Addr) (c : Nat) (xs : List α) (w : World) (hr : d.C w A xs.length xs) (hp : PredK Tryz.prog d g cap p xs w) :
  Calls Tryz.prog 71 #[.slice A xs.length c, .func (.func g) #[] cap] w fun e w' => e = .returned (.bool (xs.any p)) ∧ Grew w w' := by
 have hcall := index_calls d hs z p g cap eg A c xs w hr hp
 have HB := zA (idxB_any p xs)
 clear hr hp
 go_enter Tryz.func71, Tryz.ntmps71
 generalize hi : idxB p xs = i at hcall HB
 clear hi
 go_wp2_with (go_at_call 94; refine hcall.mono ?_; rintro e w' ⟨rfl, hb'⟩)
 go_ret
 exact ⟨by rw [← HB.out]; rfl, hb'⟩
end Go.Proofs.YtmgmdnmfalepkaaGreat.IdxBB
