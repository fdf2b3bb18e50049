/- Parts of the proof (see the row's own text): SegOk, MrgS. -/
import Derived.Test.YtmgmdnmfalepkaaG14
import Derived.Test.YtmgmdnmfalepkaaG13
import Derived.Deep.QuietTactic
import Derived.BigQuiet
import Derived.Test.YtmgmdnmfalepkaaG11
import Derived.Test.YtmgmdnmfalepkaaG12
import Derived.Test.YtmgmdnmfalepkaaG10
import Derived.Test.YtmgmdnmfalepkaaG9
namespace Go.Proofs.Ytmgmdnmfalepkaa.SegOk
open Go.RowKit Go.Proofs.YtmgmdnmfalepkaaW.PrintWords Go.Proofs.YtmgmdnmfalepkaaW.PrintMore Go.Proofs.Ytmgmdnmfalepkaa.Kit Go.Proofs.Ytmgmdnmfalepkaa.PKit Go.Proofs.Ytmgmdnmfalepkaa.Ty Go.Proofs.Ytmgmdnmfalepkaa.PSeg Go.Proofs.Ytmgmdnmfalepkaa.PEnc Go.Proofs.Ytmgmdnmfalepkaa.Build Go.Proofs.Ytmgmdnmfalepkaa.EncA Go.Proofs.Ytmgmdnmfalepkaa.HelpBB
set_option linter.unusedVariables false
theorem cellI {w : World} {ad : Addr} {n : Nat} {xs : List Int} (h : Kd.C (Kd.int .i64) w (some ad) n xs) (i : Nat) (hi : i < n) : w.cell? (ad.add i) = some (.int .i64 (xs.getD i 0)) := by
  obtain ⟨ad', c, e, _, hK, hc0⟩ := Kd.C_get h 0 (i : Int) (by omega) (by omega)
  cases e
  rw [Int.toNat_natCast] at hK hc0
  have hk : c = [.int .i64 (xs.getD i 0)] := hK
  subst hk
  have := hc0 0 _ rfl
  simpa [Kd.int, Kd.scalar] using this
set_option maxRecDepth 100000 in
set_option maxHeartbeats 4000000 in
theorem equal_calls (A A' : Option Addr) (c c' : Nat) (x y : List Int) (w : World) (hr : Kd.C (Kd.int .i64) w A x.length x) (hr' : Kd.C (Kd.int .i64) w A' y.length y) (hx0 : x.length ≤ 1099511627776) :
    Calls Try.prog 148 #[.slice A x.length c, .slice A' y.length c'] w fun e w' => e = .returned (.bool (decide (x = y))) ∧ Below w.heap.size w w' := by
  have HX := Aside0.mk hr
  have HY := Aside0.mk hr'
  clear hr hr'
  by_cases hlen : x.length = y.length
  · have HLN := Aside0.mk hlen
    have hbl : ((x.length : Int) != (y.length : Int)) = false := by simp [hlen]
    clear hlen
    go_enter Try.func148, Try.ntmps148
    go_wp2
    go_loopg [13] x.length (fun gg s13 wr => ∃ i : Nat, i ≤ x.length ∧ x.length - i ≤ gg ∧ s13 = .int .i64 i ∧ Aside0 (x.take i = y.take i) ∧ Aside0 (Below w.heap.size w wr))
    case atStart => exact ⟨0, by omega, by omega, rfl, ⟨rfl⟩, ⟨Below.refl _ _⟩⟩
    case round =>
      obtain ⟨i, hi, hg, rfl, HT, HB⟩ := hrel
      have hla : x.length ≤ y.length := Nat.le_of_eq HLN.out
      have hlb : y.length ≤ x.length := Nat.le_of_eq HLN.out.symm
      by_cases hlt : i < x.length
      · have hltz : (i : Int) < (x.length : Int) := by omega
        have hlty : (i : Int) < (y.length : Int) := by omega
        obtain ⟨ad, hA, _⟩ := HX.out.2.2 (by omega)
        obtain ⟨ad', hA', _⟩ := HY.out.2.2 (by omega)
        subst hA
        subst hA'
        have hcx := cellI (Kd.C_below HX.out HB.out) i (by omega)
        have hcy := cellI (Kd.C_below HY.out HB.out) i (by omega)
        have hstep : x.getD i 0 = y.getD i 0 → x.take (i + 1) = y.take (i + 1) := fun e => by
          rw [List.take_succ_eq_append_getElem hlt, List.take_succ_eq_append_getElem (show i < y.length by omega), HT.out, ← getD_get' x i hlt, ← getD_get' y i (by omega), e]
        have hne : x.getD i 0 ≠ y.getD i 0 → decide (x = y) = false := fun h => decide_eq_false (fun e => h (by rw [e]))
        have HS := Aside0.mk hstep
        have HNE := Aside0.mk hne
        clear hstep hne
        generalize hx : x.getD i 0 = xi at hcx HS HNE
        generalize hy : y.getD i 0 = yi at hcy HS HNE
        clear hx hy
        by_cases he : xi = yi
        · subst he
          have hbn : (xi != xi) = false := by simp
          go_wp2_with fail
          go_quiet (fail)
          go_wp2
          go_roundg (x.length - (i + 1))
          case measure => omega
          case rel => exact ⟨i + 1, by omega, by omega, by go_num, ⟨HS.out (by first | rfl | trivial)⟩, ⟨pw_below_drewN HB.out _⟩⟩
        · have hbn : (xi != yi) = true := by simpa using he
          go_wp2_with fail
          go_quiet (fail)
          go_wp2
          go_ret
          exact ⟨by rw [HNE.out he]; rfl, pw_below_drewN HB.out _⟩
      · have hltz : ¬ (i : Int) < (x.length : Int) := by omega
        obtain rfl : i = x.length := by omega
        have he : x = y := by
          have h1 := HT.out
          rw [List.take_length, List.take_of_length_le (by omega)] at h1
          exact h1
        have HE := Aside0.mk (show decide (x = y) = true from decide_eq_true he)
        clear he
        go_wp2
        go_ret
        exact ⟨by rw [HE.out]; rfl, HB.out⟩
  · have hlz : ¬ (x.length : Int) = (y.length : Int) := by omega
    go_enter Try.func148, Try.ntmps148
    go_wp2
    go_ret
    exact ⟨by rw [decide_eq_false (fun e => hlen (by rw [e]))]; rfl, Below.refl _ _⟩
set_option maxRecDepth 100000 in
set_option maxHeartbeats 4000000 in
theorem equalF_calls (A A' : Option Addr) (c c' : Nat) (x y : List (List Int)) (w : World) (hr : Kd.C HelpII.kI w A x.length x) (hr' : Kd.C HelpII.kI w A' y.length y) (hx0 : x.length ≤ 1099511627776) (hx1 : HelpII.totalI x ≤ 1099511627776) :
    Calls Try.prog 149 #[.slice A x.length c, .slice A' y.length c', .func (.func 148) #[] #[]] w fun e w' => e = .returned (.bool (decide (x = y))) ∧ Below w.heap.size w w' := by
  have HX := Aside0.mk hr
  have HY := Aside0.mk hr'
  clear hr hr'
  by_cases hlen : x.length = y.length
  · have HLN := Aside0.mk hlen
    have hbl : ((x.length : Int) != (y.length : Int)) = false := by simp [hlen]
    clear hlen
    go_enter Try.func149, Try.ntmps149
    go_wp2
    go_loopg [17] x.length (fun gg s17 wr => ∃ i : Nat, i ≤ x.length ∧ x.length - i ≤ gg ∧ s17 = .int .i64 i ∧ Aside0 (x.take i = y.take i) ∧ Aside0 (Below w.heap.size w wr))
    case atStart => exact ⟨0, by omega, by omega, rfl, ⟨rfl⟩, ⟨Below.refl _ _⟩⟩
    case round =>
      obtain ⟨i, hi, hg, rfl, HT, HB⟩ := hrel
      have hla : x.length ≤ y.length := Nat.le_of_eq HLN.out
      have hlb : y.length ≤ x.length := Nat.le_of_eq HLN.out.symm
      by_cases hlt : i < x.length
      · have hltz : (i : Int) < (x.length : Int) := by omega
        have hlty : (i : Int) < (y.length : Int) := by omega
        obtain ⟨ad, u, rfl, hc0, hK⟩ := get_one (d := HelpII.kI) rfl HX.out [] i hlt
        obtain ⟨B, b, e', _, hr1⟩ := hK
        obtain rfl : u = .slice B (x.getD i []).length b := by injection e'
        obtain ⟨ad', u', rfl, hc1, hK'⟩ := get_one (d := HelpII.kI) rfl HY.out [] i (by omega)
        obtain ⟨B', b', e'', _, hr2⟩ := hK'
        obtain rfl : u' = .slice B' (y.getD i []).length b' := by injection e''
        have hcx : wr.cell? (ad.add i) = some (.slice B (x.getD i []).length b) := (HB.out.cell (World.block_lt_of_cell? w _ hc0)).trans hc0
        have hcy : wr.cell? (ad'.add i) = some (.slice B' (y.getD i []).length b') := (HB.out.cell (World.block_lt_of_cell? w _ hc1)).trans hc1
        have gx : x.getD i [] = x[i] := by simp [List.getD, List.getElem?_eq_getElem hlt]
        have gy : y.getD i [] = y[i]'(by omega) := by simp [List.getD, List.getElem?_eq_getElem (show i < y.length by omega)]
        have hle : (x.getD i []).length ≤ 1099511627776 := by
          have h1 := HelpII.total_mem (show x.getD i [] ∈ x by rw [gx]; exact List.getElem_mem hlt)
          omega
        have heq := equal_calls B B' b b' (x.getD i []) (y.getD i []) wr (Kd.C_below hr1 HB.out) (Kd.C_below hr2 HB.out) hle
        have hstep : x.getD i [] = y.getD i [] → x.take (i + 1) = y.take (i + 1) := fun e => by
          rw [List.take_succ_eq_append_getElem hlt, List.take_succ_eq_append_getElem (show i < y.length by omega), HT.out, ← gx, ← gy, e]
        have hne : x.getD i [] ≠ y.getD i [] → decide (x = y) = false := fun h => decide_eq_false (fun e => h (by rw [e]))
        have HS := Aside0.mk hstep
        have HNE := Aside0.mk hne
        clear hstep hne hr1 hr2 e' e'' hc0 hc1 gx gy hle
        generalize hx : x.getD i [] = xi at hcx HS HNE heq
        generalize hy : y.getD i [] = yi at hcy HS HNE heq
        clear hx hy
        by_cases he : xi = yi
        · rw [decide_eq_true he] at heq
          have HEQ := Aside0.mk he
          clear he
          go_wp2_with (go_at_call 148; refine heq.mono ?_; rintro e w2 ⟨rfl, hb2⟩)
          go_roundg (x.length - (i + 1))
          case measure => omega
          case rel => exact ⟨i + 1, by omega, by omega, by go_num, ⟨HS.out HEQ.out⟩, ⟨below_then HB.out HB.out.size hb2⟩⟩
        · rw [decide_eq_false he] at heq
          have HEQ := Aside0.mk he
          clear he
          go_wp2_with (go_at_call 148; refine heq.mono ?_; rintro e w2 ⟨rfl, hb2⟩)
          go_ret
          exact ⟨by rw [HNE.out HEQ.out]; rfl, below_then HB.out HB.out.size hb2⟩
      · have hltz : ¬ (i : Int) < (x.length : Int) := by omega
        obtain rfl : i = x.length := by omega
        have he : x = y := by
          have h1 := HT.out
          rw [List.take_length, List.take_of_length_le (by omega)] at h1
          exact h1
        have HE := Aside0.mk (show decide (x = y) = true from decide_eq_true he)
        clear he
        go_wp2
        go_ret
        exact ⟨by rw [HE.out]; rfl, HB.out⟩
  · have hlz : ¬ (x.length : Int) = (y.length : Int) := by omega
    go_enter Try.func149, Try.ntmps149
    go_wp2
    go_ret
    exact ⟨by rw [decide_eq_false (fun e => hlen (by rw [e]))]; rfl, Below.refl _ _⟩
set_option maxRecDepth 100000 in
set_option maxHeartbeats 4000000 in
theorem segOk_calls (b : Int) (ls : List (List Int)) (K : List Int) (Ps : List (List Int)) (A1 A2 A3 : Option Addr) (c1 c2 c3 : Nat) (w : World) (h1 : HelpBB.tBB.K w ls (.slice A1 ls.length c1)) (h2 : HelpI.tI.K w K (.slice A2 K.length c2)) (h3 : HelpII.tII.K w Ps (.slice A3 Ps.length c3))
    (hby : Bytes ls) (hs : smallBB ls) (hk : K.length ≤ 1048576) (hp : Ps.length + HelpII.totalI Ps ≤ 1048576) :
    Calls Try.prog 108 #[.agg #[.int .i64 b, .slice A1 ls.length c1, .slice A2 K.length c2, .slice A3 Ps.length c3]] w fun e w' => e = .returned (.bool (valid (b, ls, K, Ps))) ∧ Below w.heap.size w w' := by
  have huI := Try.underlying50
  obtain ⟨B1, e1, q1, hc1, hr1⟩ := h1
  obtain ⟨rfl, rfl⟩ : A1 = B1 ∧ c1 = e1 := by injection q1 with q1 q2 q3; exact ⟨q1, q3⟩
  have R1 := Aside0.mk hr1
  have C1 := Aside0.mk hc1
  clear hc1 hr1 q1
  obtain ⟨B2, e2, q2, hc2, hr2⟩ := h2
  obtain ⟨rfl, rfl⟩ : A2 = B2 ∧ c2 = e2 := by injection q2 with q1 q2 q3; exact ⟨q1, q3⟩
  have R2 := Aside0.mk hr2
  have C2 := Aside0.mk hc2
  clear hc2 hr2 q2
  obtain ⟨B3, e3, q3, hc3, hr3⟩ := h3
  obtain ⟨rfl, rfl⟩ : A3 = B3 ∧ c3 = e3 := by injection q3 with q1 q2 q3; exact ⟨q1, q3⟩
  have R3 := Aside0.mk hr3
  have C3 := Aside0.mk hc3
  clear hc3 hr3 q3
  have HBY := Aside0.mk hby
  have HS := Aside0.mk hs
  have hbuild : ∀ w1 : World, Below w.heap.size w w1 → Calls Try.prog 40 #[.int .i64 b, .slice A1 ls.length c1] w1 fun e w' => ∃ v, e = .returned (.tuple #[v, .int .i64 (build b ls).2]) ∧ (∃ (bb : Int) (l1 : List (List Int)) (l2 : List Int) (l3 : List (List Int)) (D1 D2 D3 : Option Addr) (d1 d2 d3 : Nat), v = .agg #[.int .i64 bb, .slice D1 l1.length d1, .slice D2 l2.length d2, .slice D3 l3.length d3] ∧ (bb, l1, l2, l3) = (build b ls).1 ∧ Kd.C (Kd.int .i64) w' D2 l2.length l2 ∧ Kd.C HelpII.kI w' D3 l3.length l3) ∧ Grew w1 w' := fun w1 hw => by
    refine (build_calls b A1 c1 ls w1 (Kd.C_below R1.out hw) C1.out HBY.out HS.out).mono ?_
    rintro e w' ⟨v, rfl, hM, hg⟩
    refine ⟨v, rfl, ?_, hg⟩
    have hK := HelpSeg.tSeg.K_of_M hM
    generalize (build b ls).1 = R at hK ⊢
    obtain ⟨bb, l1, l2, l3⟩ := R
    obtain ⟨l, rfl, u0, r0, rfl, g0, u1, r1, rfl, g1, u2, r2, rfl, g2, u3, rfl, g3⟩ := hK
    have g0 : u0 = .int .i64 bb := g0
    subst g0
    obtain ⟨D1, d1, rfl, _, _⟩ := g1
    obtain ⟨D2, d2, rfl, _, hC2⟩ := g2
    obtain ⟨D3, d3, rfl, _, hC3⟩ := g3
    exact ⟨bb, l1, l2, l3, D1, D2, D3, d1, d2, d3, rfl, rfl, hC2, hC3⟩
  clear hby hs
  cases hf : fits b ls with
  | false =>
    have hv : valid (b, ls, K, Ps) = false := by
      show (fits b ls && _) = false
      rw [hf]
      rfl
    have HCO := Aside0.mk (show (build b ls).2 = 4 from by rw [build_bad hf])
    rw [hv]
    clear hv hf
    go_enter Try.func108, Try.ntmps108
    go_wp2_with (first | ((with_reducible refine gate_dst (N := 1) rfl ?_); refine box_event ?hg (N := 1) ?hd (cs := #[.int .i64 b, .slice A1 ls.length c1, .slice A2 K.length c2, .slice A3 Ps.length c3]) (t := 50) ?hr ?_; (case hd => rfl); (case hg => rfl); (case hr => first | (go_simp; done) | (go_simp; rfl)); intro gs hg_ w1 hbx hbb; clear hg_; have BKs := Aside0.mk hbx; have HB := Aside0.mk hbb; have hc0 : (w1).cell? ⟨gs, 0, none⟩ = some (.int .i64 b) := (blk_cell hbx 0).trans rfl; have fhc0 := blk_frozen hbx 0; have hc1 : (w1).cell? ⟨gs, 1, none⟩ = some (.slice A1 ls.length c1) := (blk_cell hbx 1).trans rfl; have fhc1 := blk_frozen hbx 1; have hc2 : (w1).cell? ⟨gs, 2, none⟩ = some (.slice A2 K.length c2) := (blk_cell hbx 2).trans rfl; have fhc2 := blk_frozen hbx 2; have hc3 : (w1).cell? ⟨gs, 3, none⟩ = some (.slice A3 Ps.length c3) := (blk_cell hbx 3).trans rfl; have fhc3 := blk_frozen hbx 3; clear hbx hbb))
    go_at_call 40
    refine (hbuild w1 HB.out).mono ?_
    rintro e w2 ⟨v2, rfl, hM, hg2⟩
    rw [HCO.out]
    obtain ⟨bb, l1, l2, l3, D1, D2, D3, d1, d2, d3, ev, hCC⟩ := hM
    subst ev
    have HCC := Aside0.mk hCC
    have HG2 := Aside0.mk hg2
    have BK2 := Aside0.mk (blk_below (g := gs) BKs.out hg2)
    have BK3 := Aside0.mk (blk_alloc BK2.out (.cells #[.int .i64 bb, .slice D1 l1.length d1, .slice D2 l2.length d2, .slice D3 l3.length d3] 50 (0, 0)))
    clear hCC hg2
    have hd0 : (w2).cell? ⟨gs, 0, none⟩ = some (.int .i64 b) := (blk_cell BK2.out 0).trans rfl
    have fhd0 := blk_frozen BK2.out 0
    have hd1 : (w2).cell? ⟨gs, 1, none⟩ = some (.slice A1 ls.length c1) := (blk_cell BK2.out 1).trans rfl
    have fhd1 := blk_frozen BK2.out 1
    have hd2 : (w2).cell? ⟨gs, 2, none⟩ = some (.slice A2 K.length c2) := (blk_cell BK2.out 2).trans rfl
    have fhd2 := blk_frozen BK2.out 2
    have hd3 : (w2).cell? ⟨gs, 3, none⟩ = some (.slice A3 Ps.length c3) := (blk_cell BK2.out 3).trans rfl
    have fhd3 := blk_frozen BK2.out 3
    have he0 : (w2.alloc (.cells #[.int .i64 bb, .slice D1 l1.length d1, .slice D2 l2.length d2, .slice D3 l3.length d3] 50 (0, 0))).cell? ⟨gs, 0, none⟩ = some (.int .i64 b) := (blk_cell BK3.out 0).trans rfl
    have fhe0 := blk_frozen BK3.out 0
    have he1 : (w2.alloc (.cells #[.int .i64 bb, .slice D1 l1.length d1, .slice D2 l2.length d2, .slice D3 l3.length d3] 50 (0, 0))).cell? ⟨gs, 1, none⟩ = some (.slice A1 ls.length c1) := (blk_cell BK3.out 1).trans rfl
    have fhe1 := blk_frozen BK3.out 1
    have he2 : (w2.alloc (.cells #[.int .i64 bb, .slice D1 l1.length d1, .slice D2 l2.length d2, .slice D3 l3.length d3] 50 (0, 0))).cell? ⟨gs, 2, none⟩ = some (.slice A2 K.length c2) := (blk_cell BK3.out 2).trans rfl
    have fhe2 := blk_frozen BK3.out 2
    have he3 : (w2.alloc (.cells #[.int .i64 bb, .slice D1 l1.length d1, .slice D2 l2.length d2, .slice D3 l3.length d3] 50 (0, 0))).cell? ⟨gs, 3, none⟩ = some (.slice A3 Ps.length c3) := (blk_cell BK3.out 3).trans rfl
    have fhe3 := blk_frozen BK3.out 3
    go_wp2
    go_ret
    exact ⟨rfl, grew_trans (grew_trans HB.out HG2.out) (below_alloc (Below.refl _ _) _)⟩
  | true =>
    have HBD := Aside0.mk (show (build b ls).1 = (b, ls, keys ls, (keys ls).map (post b ls ls.length)) from by unfold build; rw [hf]; rfl)
    have HCO := Aside0.mk (show (build b ls).2 = 0 from by unfold build; rw [hf]; rfl)
    have HV := Aside0.mk (show valid (b, ls, K, Ps) = (decide (K = keys ls) && decide (Ps = (keys ls).map (post b ls ls.length))) from by show (fits b ls && _) = _; rw [hf]; rfl)
    have HGR := Aside0.mk (show ∀ W w2 : World, Below w.heap.size w W → W = w2 → True from fun _ _ _ _ => trivial)
    rw [HV.out]
    clear hf
    go_enter Try.func108, Try.ntmps108
    go_wp2_with (first | ((with_reducible refine gate_dst (N := 1) rfl ?_); refine box_event ?hg (N := 1) ?hd (cs := #[.int .i64 b, .slice A1 ls.length c1, .slice A2 K.length c2, .slice A3 Ps.length c3]) (t := 50) ?hr ?_; (case hd => rfl); (case hg => rfl); (case hr => first | (go_simp; done) | (go_simp; rfl)); intro gs hg_ w1 hbx hbb; clear hg_; have BKs := Aside0.mk hbx; have HB := Aside0.mk hbb; have hc0 : (w1).cell? ⟨gs, 0, none⟩ = some (.int .i64 b) := (blk_cell hbx 0).trans rfl; have fhc0 := blk_frozen hbx 0; have hc1 : (w1).cell? ⟨gs, 1, none⟩ = some (.slice A1 ls.length c1) := (blk_cell hbx 1).trans rfl; have fhc1 := blk_frozen hbx 1; have hc2 : (w1).cell? ⟨gs, 2, none⟩ = some (.slice A2 K.length c2) := (blk_cell hbx 2).trans rfl; have fhc2 := blk_frozen hbx 2; have hc3 : (w1).cell? ⟨gs, 3, none⟩ = some (.slice A3 Ps.length c3) := (blk_cell hbx 3).trans rfl; have fhc3 := blk_frozen hbx 3; clear hbx hbb))
    go_at_call 40
    refine (hbuild w1 HB.out).mono ?_
    rintro e w2 ⟨v2, rfl, hM, hg2⟩
    rw [HCO.out]
    obtain ⟨bb, l1, l2, l3, D1, D2, D3, d1, d2, d3, ev, hCC⟩ := hM
    subst ev
    have HCC := Aside0.mk hCC
    have HG2 := Aside0.mk hg2
    have BK2 := Aside0.mk (blk_below (g := gs) BKs.out hg2)
    have BK3 := Aside0.mk (blk_alloc BK2.out (.cells #[.int .i64 bb, .slice D1 l1.length d1, .slice D2 l2.length d2, .slice D3 l3.length d3] 50 (0, 0)))
    clear hCC hg2
    have hd0 : (w2).cell? ⟨gs, 0, none⟩ = some (.int .i64 b) := (blk_cell BK2.out 0).trans rfl
    have fhd0 := blk_frozen BK2.out 0
    have hd1 : (w2).cell? ⟨gs, 1, none⟩ = some (.slice A1 ls.length c1) := (blk_cell BK2.out 1).trans rfl
    have fhd1 := blk_frozen BK2.out 1
    have hd2 : (w2).cell? ⟨gs, 2, none⟩ = some (.slice A2 K.length c2) := (blk_cell BK2.out 2).trans rfl
    have fhd2 := blk_frozen BK2.out 2
    have hd3 : (w2).cell? ⟨gs, 3, none⟩ = some (.slice A3 Ps.length c3) := (blk_cell BK2.out 3).trans rfl
    have fhd3 := blk_frozen BK2.out 3
    have he0 : (w2.alloc (.cells #[.int .i64 bb, .slice D1 l1.length d1, .slice D2 l2.length d2, .slice D3 l3.length d3] 50 (0, 0))).cell? ⟨gs, 0, none⟩ = some (.int .i64 b) := (blk_cell BK3.out 0).trans rfl
    have fhe0 := blk_frozen BK3.out 0
    have he1 : (w2.alloc (.cells #[.int .i64 bb, .slice D1 l1.length d1, .slice D2 l2.length d2, .slice D3 l3.length d3] 50 (0, 0))).cell? ⟨gs, 1, none⟩ = some (.slice A1 ls.length c1) := (blk_cell BK3.out 1).trans rfl
    have fhe1 := blk_frozen BK3.out 1
    have he2 : (w2.alloc (.cells #[.int .i64 bb, .slice D1 l1.length d1, .slice D2 l2.length d2, .slice D3 l3.length d3] 50 (0, 0))).cell? ⟨gs, 2, none⟩ = some (.slice A2 K.length c2) := (blk_cell BK3.out 2).trans rfl
    have fhe2 := blk_frozen BK3.out 2
    have he3 : (w2.alloc (.cells #[.int .i64 bb, .slice D1 l1.length d1, .slice D2 l2.length d2, .slice D3 l3.length d3] 50 (0, 0))).cell? ⟨gs, 3, none⟩ = some (.slice A3 Ps.length c3) := (blk_cell BK3.out 3).trans rfl
    have fhe3 := blk_frozen BK3.out 3
    go_wp2_with fail
    have HL := Aside0.mk (HCC.out.1.trans HBD.out)
    have HL2 := Aside0.mk (show l2 = keys ls from congrArg (fun q => q.2.2.1) HL.out)
    have HL3 := Aside0.mk (show l3 = (keys ls).map (post b ls ls.length) from congrArg (fun q => q.2.2.2) HL.out)
    have HW := Aside0.mk (grew_trans (grew_trans HB.out HG2.out) (below_alloc (Below.refl _ w2) (.cells #[.int .i64 bb, .slice D1 l1.length d1, .slice D2 l2.length d2, .slice D3 l3.length d3] 50 (0, 0))))
    have heq := equal_calls A2 D2 c2 d2 K l2 (w2.alloc (.cells #[.int .i64 bb, .slice D1 l1.length d1, .slice D2 l2.length d2, .slice D3 l3.length d3] 50 (0, 0))) (Kd.C_below R2.out HW.out) (Kd.C_alloc HCC.out.2.1 _) (by omega)
    have HBT := Aside0.mk (show (w2.alloc (.cells #[.int .i64 bb, .slice D1 l1.length d1, .slice D2 l2.length d2, .slice D3 l3.length d3] 50 (0, 0))).heap[w2.heap.size]? = some (.cells #[.int .i64 bb, .slice D1 l1.length d1, .slice D2 l2.length d2, .slice D3 l3.length d3] 50 (0, 0)) from heap_alloc_new w2 _)
    by_cases hKe : K = l2
    · rw [decide_eq_true hKe] at heq
      have HR1 := Aside0.mk (show decide (K = keys ls) = true from decide_eq_true (hKe.trans HL2.out))
      clear hKe
      refine heq.mono ?_
      rintro e w4 ⟨rfl, hb4⟩
      have BK4 := Aside0.mk (blk_below (g := gs) BK3.out hb4)
      have BT4 := Aside0.mk (blk_below (g := w2.heap.size) HBT.out hb4)
      have HW4 := Aside0.mk (grew_trans HW.out hb4)
      have hD3 := Kd.C_below (Kd.C_alloc HCC.out.2.2 (.cells #[.int .i64 bb, .slice D1 l1.length d1, .slice D2 l2.length d2, .slice D3 l3.length d3] 50 (0, 0))) hb4
      have heqF := equalF_calls A3 D3 c3 d3 Ps l3 w4 (Kd.C_below R3.out HW4.out) hD3 (by omega) (by omega)
      have hg0 : w4.cell? ⟨gs, 0, none⟩ = some (.int .i64 b) := (blk_cell BK4.out 0).trans rfl
      have fhg0 := blk_frozen BK4.out 0
      have hg1 : w4.cell? ⟨gs, 1, none⟩ = some (.slice A1 ls.length c1) := (blk_cell BK4.out 1).trans rfl
      have fhg1 := blk_frozen BK4.out 1
      have hg2 : w4.cell? ⟨gs, 2, none⟩ = some (.slice A2 K.length c2) := (blk_cell BK4.out 2).trans rfl
      have fhg2 := blk_frozen BK4.out 2
      have hg3 : w4.cell? ⟨gs, 3, none⟩ = some (.slice A3 Ps.length c3) := (blk_cell BK4.out 3).trans rfl
      have fhg3 := blk_frozen BK4.out 3
      have ht0 : w4.cell? ⟨w2.heap.size, 0, none⟩ = some (.int .i64 bb) := (blk_cell BT4.out 0).trans rfl
      have fht0 := blk_frozen BT4.out 0
      have ht1 : w4.cell? ⟨w2.heap.size, 1, none⟩ = some (.slice D1 l1.length d1) := (blk_cell BT4.out 1).trans rfl
      have fht1 := blk_frozen BT4.out 1
      have ht2 : w4.cell? ⟨w2.heap.size, 2, none⟩ = some (.slice D2 l2.length d2) := (blk_cell BT4.out 2).trans rfl
      have fht2 := blk_frozen BT4.out 2
      have ht3 : w4.cell? ⟨w2.heap.size, 3, none⟩ = some (.slice D3 l3.length d3) := (blk_cell BT4.out 3).trans rfl
      have fht3 := blk_frozen BT4.out 3
      go_wp2_with (go_at_call 149; refine heqF.mono ?_; rintro e w5 ⟨rfl, hb5⟩)
      go_ret
      refine ⟨?_, grew_trans HW4.out hb5⟩
      rw [HR1.out, Bool.true_and, ← HL3.out]
      rfl
    · rw [decide_eq_false hKe] at heq
      have HR1 := Aside0.mk (show decide (K = keys ls) = false from decide_eq_false (fun e => hKe (e.trans HL2.out.symm)))
      clear hKe
      refine heq.mono ?_
      rintro e w4 ⟨rfl, hb4⟩
      go_wp2
      go_ret
      refine ⟨?_, grew_trans HW.out hb4⟩
      rw [HR1.out, Bool.false_and]
      rfl
end Go.Proofs.Ytmgmdnmfalepkaa.SegOk

namespace Go.Proofs.Ytmgmdnmfalepkaa.Mrg
open Go.RowKit Go.Proofs.YtmgmdnmfalepkaaW.PrintWords Go.Proofs.YtmgmdnmfalepkaaW.PrintMore Go.Proofs.Ytmgmdnmfalepkaa.Kit Go.Proofs.Ytmgmdnmfalepkaa.PKit Go.Proofs.Ytmgmdnmfalepkaa.Ty Go.Proofs.Ytmgmdnmfalepkaa.PSeg Go.Proofs.Ytmgmdnmfalepkaa.PEnc Go.Proofs.Ytmgmdnmfalepkaa.Build Go.Proofs.Ytmgmdnmfalepkaa.HelpBB Go.Proofs.Ytmgmdnmfalepkaa.HelpSeg Go.Proofs.Ytmgmdnmfalepkaa.Far
set_option linter.unusedVariables false
set_option linter.unusedSimpArgs false
theorem cells4 {w : World} {g : Nat} {t : TypeId} {a0 a1 a2 a3 : Value} (h : w.heap[g]? = some (.cells #[a0, a1, a2, a3] t (0, 0))) : (w.cell? ⟨g, 0, none⟩ = some a0 ∧ w.frozen? ⟨g, 0, none⟩ = false) ∧ (w.cell? ⟨g, 1, none⟩ = some a1 ∧ w.frozen? ⟨g, 1, none⟩ = false) ∧ (w.cell? ⟨g, 2, none⟩ = some a2 ∧ w.frozen? ⟨g, 2, none⟩ = false) ∧ (w.cell? ⟨g, 3, none⟩ = some a3 ∧ w.frozen? ⟨g, 3, none⟩ = false) := ⟨⟨(blk_cell h 0).trans rfl, blk_frozen h 0⟩, ⟨(blk_cell h 1).trans rfl, blk_frozen h 1⟩, ⟨(blk_cell h 2).trans rfl, blk_frozen h 2⟩, ⟨(blk_cell h 3).trans rfl, blk_frozen h 3⟩⟩
def mrgOk (a b : SegT) : Bool := valid a && (valid b && (decide (b.1 = a.1 + (a.2.1.length : Int)) && decide (totalB a.2.1 + totalB b.2.1 ≤ 20000)))
def mrg (a b : SegT) : SegT × Int := if mrgOk a b = true then (seg a.1 (a.2.1 ++ b.2.1), 0) else ((0, [], [], []), 4)
theorem mrg_bad {a b : SegT} (h : mrgOk a b = false) : mrg a b = ((0, [], [], []), 4) := by unfold mrg; rw [h]; rfl
theorem mrg_good {a b : SegT} (h : mrgOk a b = true) : mrg a b = (seg a.1 (a.2.1 ++ b.2.1), 0) := by unfold mrg; rw [h]; rfl
theorem below_of_drawn {w w' : World} (h : Drawn0 w w') : Below w.heap.size w w' := by first | exact h.below | exact pw_grow (by first | exact h | exact h.below)
theorem seg_parts {w : World} {x : SegT} {v0 v1 v2 v3 : Value} (h : tSeg.K w x (.agg #[v0, v1, v2, v3])) : HelpBB.tBB.K w x.2.1 v1 ∧ HelpI.tI.K w x.2.2.1 v2 ∧ HelpII.tII.K w x.2.2.2 v3 := by
  obtain ⟨l, el, u0, r0, e0, g0, u1, r1, e1, g1, u2, r2, e2, g2, u3, e3, g3⟩ := h
  subst e3 e2 e1 e0
  injection el with el
  have el' := congrArg Array.toList el
  simp only [List.cons.injEq, and_true] at el'
  obtain ⟨rfl, rfl, rfl, rfl⟩ := el'
  exact ⟨g1, g2, g3⟩
theorem small_parts' {x : SegT} (h : HelpSeg.smallSeg x) : smallBB x.2.1 ∧ x.2.2.1.length ≤ 1048576 ∧ x.2.2.2.length + HelpII.totalI x.2.2.2 ≤ 1048576 := by
  have h' : (x.2.1.length + HelpBB.totalB x.2.1) + x.2.2.1.length + (x.2.2.2.length + HelpII.totalI x.2.2.2) ≤ 1048576 := h
  exact ⟨by show _ ≤ _; omega, by omega, by omega⟩
theorem valid_calls (x : SegT) (v : Value) (w : World) (h : tSeg.K w x v) (s : HelpSeg.smallSeg x) (hb : Bytes x.2.1) :
    Calls Try.prog 106 #[v] w fun e w' => e = .returned (.bool (valid x)) ∧ Below w.heap.size w w' := by
  obtain ⟨p1, p2, p3⟩ := small_parts' s
  obtain ⟨k, hk⟩ := (valid_ev x hb p1 p2 p3).rounds
  obtain ⟨A1, c1, A2, c2, A3, c3, rfl⟩ := HelpSeg.form h
  obtain ⟨⟨B1, d1, e1, q1, r1⟩, ⟨B2, d2, e2, q2, r2⟩, ⟨B3, d3, e3, q3, r3⟩⟩ := seg_parts h
  obtain ⟨rfl, rfl⟩ : A1 = B1 ∧ c1 = d1 := by injection e1 with x1 x2 x3; exact ⟨x1, x3⟩
  obtain ⟨rfl, rfl⟩ : A2 = B2 ∧ c2 = d2 := by injection e2 with x1 x2 x3; exact ⟨x1, x3⟩
  obtain ⟨rfl, rfl⟩ : A3 = B3 ∧ c3 = d3 := by injection e3 with x1 x2 x3; exact ⟨x1, x3⟩
  exact L.spec_l4valid.calls k x.1 A1 c1 x.2.1 A2 c2 x.2.2.1 A3 c3 x.2.2.2 _ w r1 q1 r2 q2 r3 q3 hk
theorem comp {α : Type} (T : Ty α) {w W' : World} {base n0 : Nat} {ok : Nat → Prop} {x : α} {v : Value} (h : T.M w base ok x v) (g : Nat) (hg : g < base) (hn : n0 ≤ base) (u0 u1 u2 u3 : Value) (hk : Kept ((((w.setCell ⟨g, 0, none⟩ u0).setCell ⟨g, 1, none⟩ u1).setCell ⟨g, 2, none⟩ u2).setCell ⟨g, 3, none⟩ u3) W' (fun k => k < n0)) : T.K W' x v :=
  T.K_of_M (Ty.M_kept (T := T) (Ty.M_set (T := T) (Ty.M_set (T := T) (Ty.M_set (T := T) (Ty.M_set (T := T) (T.M_bound h) (fun k hk e => by have := hk.2.1; omega) _) (fun k hk e => by have := hk.2.1; omega) _) (fun k hk e => by have := hk.2.1; omega) _) (fun k hk e => by have := hk.2.1; omega) _) hk (fun k h1 h2 => by have := h1.2.1; omega))
theorem bytes_calls (A : Option Addr) (n c : Nat) (ls : List (List Int)) (hn : n = ls.length) (w : World) (hr : Kd.C kB w A ls.length ls) (hc : ls.length ≤ c) (hs : smallBB ls) :
    Calls Try.prog 107 #[.slice A n c] w fun e w' => e = .returned (.int .i64 (totalB ls : Int)) ∧ Drawn0 w w' := by
  subst hn
  obtain ⟨k, hk⟩ := (bytes_ev ls hs).rounds
  exact L.spec_l4bytes.calls k A c ls _ w hr hc hk
theorem build_calls' (b : Int) (A : Option Addr) (n c : Nat) (ls : List (List Int)) (hn : n = ls.length) (w : World) (hr : Kd.C kB w A ls.length ls) (hc : ls.length ≤ c) (hb : Bytes ls) (hs : smallBB ls) (b0 : 0 ≤ b) (b1 : b ≤ 1000) :
    Calls Try.prog 92 #[.int .i64 b, .slice A n c] w fun e w' => ∃ (A1 : Option Addr) (c1 : Nat) (A2 : Option Addr) (c2 : Nat) (A3 : Option Addr) (c3 : Nat), e = .returned (.agg #[.int .i64 b, .slice A1 n c1, .slice A2 (keys ls).length c2, .slice A3 (keys ls).length c3]) ∧ HelpBB.tBB.M w' w.heap.size (fun _ => True) ls (.slice A1 n c1) ∧ HelpI.tI.M w' w.heap.size (fun _ => True) (keys ls) (.slice A2 (keys ls).length c2) ∧ HelpII.tII.M w' w.heap.size (fun _ => True) ((keys ls).map (post b ls ls.length)) (.slice A3 (keys ls).length c3) ∧ Grew w w' := by
  subst hn
  obtain ⟨k, hk⟩ := (build_ev b ls hb hs b0 b1).rounds
  refine (L.spec_l4build.calls k b A c ls _ _ _ _ w hr hc hk).mono ?_
  rintro e w' ⟨v1, v2, v3, rfl, q1, q2, q3, q4⟩
  obtain ⟨A1, c1, rfl, _, _⟩ := Kd.S_reads q1
  obtain ⟨A2, c2, rfl, _, _⟩ := Kd.R_reads q2
  obtain ⟨A3, c3, e3, _, _⟩ := Kd.S_reads q3
  rw [List.length_map] at e3
  subst e3
  exact ⟨A1, c1, A2, c2, A3, c3, rfl, q1, q2, Kd.S_mono q3 (fun _ _ => trivial), q4⟩
set_option maxRecDepth 100000 in
set_option maxHeartbeats 4000000 in
theorem specCK (a b : SegT) (va vb : Value) (w : World) (ha : tSeg.K w a va) (hb : tSeg.K w b vb) (sa : HelpSeg.smallSeg a) (sb : HelpSeg.smallSeg b) (ya : Bytes a.2.1) (yb : Bytes b.2.1) :
    Calls Try.prog 46 #[va, vb] w fun e w' => ∃ v', e = .returned (.tuple #[v', .int .i64 (mrg a b).2]) ∧ (∀ W', Kept w' W' (fun k => k < w.heap.size) → tSeg.K W' (mrg a b).1 v') ∧ Grew w w' := by
  have huI := Try.underlying50
  have hva := fun (W : World) (hW : Below w.heap.size w W) => valid_calls a va W (tSeg.K_below hW ha) sa ya
  have hvb := fun (W : World) (hW : Below w.heap.size w W) => valid_calls b vb W (tSeg.K_below hW hb) sb yb
  obtain ⟨A1a, c1a, A2a, c2a, A3a, c3a, ea⟩ := HelpSeg.form ha
  subst ea
  obtain ⟨k1a, k2a, k3a⟩ := seg_parts ha
  obtain ⟨B1a, d1a, e1a, q1a, r1a⟩ := k1a
  obtain ⟨rfl, rfl⟩ : A1a = B1a ∧ c1a = d1a := by injection e1a with x1 x2 x3; exact ⟨x1, x3⟩
  have k1a : HelpBB.tBB.K w a.2.1 (.slice A1a a.2.1.length c1a) := ⟨A1a, c1a, rfl, q1a, r1a⟩
  have C1a := Aside0.mk r1a
  clear e1a q1a r1a
  have K1a := Aside0.mk k1a
  have K2a := Aside0.mk k2a
  have K3a := Aside0.mk k3a
  clear k1a k2a k3a
  obtain ⟨A1b, c1b, A2b, c2b, A3b, c3b, eb⟩ := HelpSeg.form hb
  subst eb
  obtain ⟨k1b, k2b, k3b⟩ := seg_parts hb
  obtain ⟨B1b, d1b, e1b, q1b, r1b⟩ := k1b
  obtain ⟨rfl, rfl⟩ : A1b = B1b ∧ c1b = d1b := by injection e1b with x1 x2 x3; exact ⟨x1, x3⟩
  have k1b : HelpBB.tBB.K w b.2.1 (.slice A1b b.2.1.length c1b) := ⟨A1b, c1b, rfl, q1b, r1b⟩
  have C1b := Aside0.mk r1b
  clear e1b q1b r1b
  have K1b := Aside0.mk k1b
  have K2b := Aside0.mk k2b
  have K3b := Aside0.mk k3b
  clear k1b k2b k3b
  clear ha hb
  obtain ⟨pa1, pa2, pa3⟩ := small_parts' sa
  obtain ⟨pb1, pb2, pb3⟩ := small_parts' sb
  have pa1 : a.2.1.length + totalB a.2.1 ≤ 1048576 := pa1
  have pb1 : b.2.1.length + totalB b.2.1 ≤ 1048576 := pb1
  have HVA := Aside0.mk hva
  have HVB := Aside0.mk hvb
  have HYA := Aside0.mk ya
  have HYB := Aside0.mk yb
  clear hva hvb sa sb pa2 pa3 pb2 pb3 ya yb
  cases xa : valid a with
  | false =>
    have HXA := Aside0.mk xa
    go_enter Try.func46, Try.ntmps46
    go_wp2_with (first | ((with_reducible refine gate_dst (N := 2) rfl ?_); refine box_event ?hg (N := 2) ?hd (cs := #[.int .i64 a.1, .slice A1a a.2.1.length c1a, .slice A2a a.2.2.1.length c2a, .slice A3a a.2.2.2.length c3a]) (t := 50) ?hr ?_; (case hd => rfl); (case hg => rfl); (case hr => first | (go_simp; done) | (go_simp; rfl)); intro ga hg_ w1 hbx hbb; have BKga := Aside0.mk hbx; have GEga := Aside0.mk (show w.heap.size ≤ ga from Nat.le_of_eq hg_.symm); have GLga := Aside0.mk (blk_lt hbx); have HBw1 := Aside0.mk hbb; clear hg_ hbb; obtain ⟨⟨hgac0, hgaf0⟩, ⟨hgac1, hgaf1⟩, ⟨hgac2, hgaf2⟩, ⟨hgac3, hgaf3⟩⟩ := cells4 hbx; clear hbx) | ((with_reducible refine gate_dst (N := 3) rfl ?_); refine box_event ?hg (N := 3) ?hd (cs := #[.int .i64 b.1, .slice A1b b.2.1.length c1b, .slice A2b b.2.2.1.length c2b, .slice A3b b.2.2.2.length c3b]) (t := 50) ?hr ?_; (case hd => rfl); (case hg => rfl); (case hr => first | (go_simp; done) | (go_simp; rfl)); intro gb hg_ w2 hbx hbb; have BKgb := Aside0.mk hbx; have GEgb := Aside0.mk (show w1.heap.size ≤ gb from Nat.le_of_eq hg_.symm); have GLgb := Aside0.mk (blk_lt hbx); have HBw2 := Aside0.mk hbb; clear hg_ hbb; obtain ⟨⟨hgbc0, hgbf0⟩, ⟨hgbc1, hgbf1⟩, ⟨hgbc2, hgbf2⟩, ⟨hgbc3, hgbf3⟩⟩ := cells4 hbx; clear hbx; have n_ := Aside0.mk (blk_below (g := ga) BKga.out HBw2.out); clear BKga hgac0 hgaf0 hgac1 hgaf1 hgac2 hgaf2 hgac3 hgaf3; have BKga := n_; clear n_) | ((with_reducible refine gate_dst (N := 4) rfl ?_); refine box_event ?hg (N := 4) ?hd (cs := #[.int .i64 0, .slice none 0 0, .slice none 0 0, .slice none 0 0]) (t := 50) ?hr ?_; (case hd => rfl); (case hg => rfl); (case hr => first | (go_simp; done) | (go_simp; rfl)); intro gr hg_ w3 hbx hbb; have BKgr := Aside0.mk hbx; have GEgr := Aside0.mk (show w2.heap.size ≤ gr from Nat.le_of_eq hg_.symm); have GLgr := Aside0.mk (blk_lt hbx); have HBw3 := Aside0.mk hbb; clear hg_ hbb; obtain ⟨⟨hgrc0, hgrf0⟩, ⟨hgrc1, hgrf1⟩, ⟨hgrc2, hgrf2⟩, ⟨hgrc3, hgrf3⟩⟩ := cells4 hbx; clear hbx; have n_ := Aside0.mk (blk_below (g := ga) BKga.out HBw3.out); clear BKga; have BKga := n_; clear n_; have n_ := Aside0.mk (blk_below (g := gb) BKgb.out HBw3.out); clear BKgb hgbc0 hgbf0 hgbc1 hgbf1 hgbc2 hgbf2 hgbc3 hgbf3; have BKgb := n_; clear n_; have HG3 := Aside0.mk (show Below w.heap.size w w3 from grew_trans (grew_trans HBw1.out HBw2.out) HBw3.out); obtain ⟨⟨x0c0, x0f0⟩, ⟨x0c1, x0f1⟩, ⟨x0c2, x0f2⟩, ⟨x0c3, x0f3⟩⟩ := cells4 BKga.out; obtain ⟨⟨y0c0, y0f0⟩, ⟨y0c1, y0f1⟩, ⟨y0c2, y0f2⟩, ⟨y0c3, y0f3⟩⟩ := cells4 BKgb.out; have GEr := Aside0.mk (show w.heap.size ≤ gr from Nat.le_trans (grew_trans HBw1.out HBw2.out).size GEgr.out)) | (go_at_call 106; (with_reducible refine (HVA.out _ HG3.out).mono ?_); rintro e w4 ⟨rfl, hb4⟩; have HG4 := Aside0.mk (show Below w.heap.size w w4 from grew_trans HG3.out hb4); replace BKga := Aside0.mk (blk_below (g := ga) BKga.out hb4); replace BKgb := Aside0.mk (blk_below (g := gb) BKgb.out hb4); replace BKgr := Aside0.mk (blk_below (g := gr) BKgr.out hb4); clear x0c0 x0f0 x0c1 x0f1 x0c2 x0f2 x0c3 x0f3 y0c0 y0f0 y0c1 y0f1 y0c2 y0f2 y0c3 y0f3; obtain ⟨⟨x1c0, x1f0⟩, ⟨x1c1, x1f1⟩, ⟨x1c2, x1f2⟩, ⟨x1c3, x1f3⟩⟩ := cells4 BKga.out; obtain ⟨⟨y1c0, y1f0⟩, ⟨y1c1, y1f1⟩, ⟨y1c2, y1f2⟩, ⟨y1c3, y1f3⟩⟩ := cells4 BKgb.out; clear hgrc0 hgrf0 hgrc1 hgrf1 hgrc2 hgrf2 hgrc3 hgrf3; obtain ⟨⟨z1c0, z1f0⟩, ⟨z1c1, z1f1⟩, ⟨z1c2, z1f2⟩, ⟨z1c3, z1f3⟩⟩ := cells4 BKgr.out; rw [HXA.out]; clear hb4))
    refine bodyPost_ret (results_ct rfl _ _ gr 50 #[.int .i64 0, .slice none 0 0, .slice none 0 0, .slice none 0 0] (0, 0) _ rfl (by (with_reducible repeat (first | refine blk_drewN ?_ _ | refine blk_drew ?_ | refine blk_alloc ?_ _)); refine blk_put (cs := #[.int .i64 0, .slice none 0 0, .slice none 0 0, .slice none 0 0]) ?_ 3 _ rfl; (with_reducible repeat (first | refine blk_drewN ?_ _ | refine blk_drew ?_ | refine blk_alloc ?_ _)); refine blk_put (cs := #[.int .i64 0, .slice none 0 0, .slice none 0 0, .slice none 0 0]) ?_ 2 _ rfl; (with_reducible repeat (first | refine blk_drewN ?_ _ | refine blk_drew ?_ | refine blk_alloc ?_ _)); refine blk_put (cs := #[.int .i64 0, .slice none 0 0, .slice none 0 0, .slice none 0 0]) ?_ 1 _ rfl; (with_reducible repeat (first | refine blk_drewN ?_ _ | refine blk_drew ?_ | refine blk_alloc ?_ _)); refine blk_put (cs := #[.int .i64 0, .slice none 0 0, .slice none 0 0, .slice none 0 0]) ?_ 0 _ rfl; (with_reducible repeat (first | refine blk_drewN ?_ _ | refine blk_drew ?_ | refine blk_alloc ?_ _)); exact BKgr.out) Try.underlying50 rfl (by kernel_rfl)) rfl ?_
    rw [mrg_bad (by unfold mrgOk; rw [HXA.out]; rfl)]
    exact ⟨_, rfl, fun _ _ => tSeg.K_of_M (bad_M _ 0), below_set (below_set (below_set (below_set (HG4.out) GEr.out) GEr.out) GEr.out) GEr.out⟩
  | true =>
    have HXA := Aside0.mk xa
    obtain ⟨fa, ea⟩ := valid_seg xa
    obtain ⟨fa1, fa2, fa3, fa4, fa5, fa6⟩ := fits_parts fa
    clear fa ea fa5
    cases xb : valid b with
    | false =>
      have HXB := Aside0.mk xb
      clear xa xb
      go_enter Try.func46, Try.ntmps46
      go_wp2_with (first | ((with_reducible refine gate_dst (N := 2) rfl ?_); refine box_event ?hg (N := 2) ?hd (cs := #[.int .i64 a.1, .slice A1a a.2.1.length c1a, .slice A2a a.2.2.1.length c2a, .slice A3a a.2.2.2.length c3a]) (t := 50) ?hr ?_; (case hd => rfl); (case hg => rfl); (case hr => first | (go_simp; done) | (go_simp; rfl)); intro ga hg_ w1 hbx hbb; have BKga := Aside0.mk hbx; have GEga := Aside0.mk (show w.heap.size ≤ ga from Nat.le_of_eq hg_.symm); have GLga := Aside0.mk (blk_lt hbx); have HBw1 := Aside0.mk hbb; clear hg_ hbb; obtain ⟨⟨hgac0, hgaf0⟩, ⟨hgac1, hgaf1⟩, ⟨hgac2, hgaf2⟩, ⟨hgac3, hgaf3⟩⟩ := cells4 hbx; clear hbx) | ((with_reducible refine gate_dst (N := 3) rfl ?_); refine box_event ?hg (N := 3) ?hd (cs := #[.int .i64 b.1, .slice A1b b.2.1.length c1b, .slice A2b b.2.2.1.length c2b, .slice A3b b.2.2.2.length c3b]) (t := 50) ?hr ?_; (case hd => rfl); (case hg => rfl); (case hr => first | (go_simp; done) | (go_simp; rfl)); intro gb hg_ w2 hbx hbb; have BKgb := Aside0.mk hbx; have GEgb := Aside0.mk (show w1.heap.size ≤ gb from Nat.le_of_eq hg_.symm); have GLgb := Aside0.mk (blk_lt hbx); have HBw2 := Aside0.mk hbb; clear hg_ hbb; obtain ⟨⟨hgbc0, hgbf0⟩, ⟨hgbc1, hgbf1⟩, ⟨hgbc2, hgbf2⟩, ⟨hgbc3, hgbf3⟩⟩ := cells4 hbx; clear hbx; have n_ := Aside0.mk (blk_below (g := ga) BKga.out HBw2.out); clear BKga hgac0 hgaf0 hgac1 hgaf1 hgac2 hgaf2 hgac3 hgaf3; have BKga := n_; clear n_) | ((with_reducible refine gate_dst (N := 4) rfl ?_); refine box_event ?hg (N := 4) ?hd (cs := #[.int .i64 0, .slice none 0 0, .slice none 0 0, .slice none 0 0]) (t := 50) ?hr ?_; (case hd => rfl); (case hg => rfl); (case hr => first | (go_simp; done) | (go_simp; rfl)); intro gr hg_ w3 hbx hbb; have BKgr := Aside0.mk hbx; have GEgr := Aside0.mk (show w2.heap.size ≤ gr from Nat.le_of_eq hg_.symm); have GLgr := Aside0.mk (blk_lt hbx); have HBw3 := Aside0.mk hbb; clear hg_ hbb; obtain ⟨⟨hgrc0, hgrf0⟩, ⟨hgrc1, hgrf1⟩, ⟨hgrc2, hgrf2⟩, ⟨hgrc3, hgrf3⟩⟩ := cells4 hbx; clear hbx; have n_ := Aside0.mk (blk_below (g := ga) BKga.out HBw3.out); clear BKga; have BKga := n_; clear n_; have n_ := Aside0.mk (blk_below (g := gb) BKgb.out HBw3.out); clear BKgb hgbc0 hgbf0 hgbc1 hgbf1 hgbc2 hgbf2 hgbc3 hgbf3; have BKgb := n_; clear n_; have HG3 := Aside0.mk (show Below w.heap.size w w3 from grew_trans (grew_trans HBw1.out HBw2.out) HBw3.out); obtain ⟨⟨x0c0, x0f0⟩, ⟨x0c1, x0f1⟩, ⟨x0c2, x0f2⟩, ⟨x0c3, x0f3⟩⟩ := cells4 BKga.out; obtain ⟨⟨y0c0, y0f0⟩, ⟨y0c1, y0f1⟩, ⟨y0c2, y0f2⟩, ⟨y0c3, y0f3⟩⟩ := cells4 BKgb.out; have GEr := Aside0.mk (show w.heap.size ≤ gr from Nat.le_trans (grew_trans HBw1.out HBw2.out).size GEgr.out)) | (go_at_call 106; (with_reducible refine (HVA.out _ HG3.out).mono ?_); rintro e w4 ⟨rfl, hb4⟩; have HG4 := Aside0.mk (show Below w.heap.size w w4 from grew_trans HG3.out hb4); replace BKga := Aside0.mk (blk_below (g := ga) BKga.out hb4); replace BKgb := Aside0.mk (blk_below (g := gb) BKgb.out hb4); replace BKgr := Aside0.mk (blk_below (g := gr) BKgr.out hb4); clear x0c0 x0f0 x0c1 x0f1 x0c2 x0f2 x0c3 x0f3 y0c0 y0f0 y0c1 y0f1 y0c2 y0f2 y0c3 y0f3; obtain ⟨⟨x1c0, x1f0⟩, ⟨x1c1, x1f1⟩, ⟨x1c2, x1f2⟩, ⟨x1c3, x1f3⟩⟩ := cells4 BKga.out; obtain ⟨⟨y1c0, y1f0⟩, ⟨y1c1, y1f1⟩, ⟨y1c2, y1f2⟩, ⟨y1c3, y1f3⟩⟩ := cells4 BKgb.out; clear hgrc0 hgrf0 hgrc1 hgrf1 hgrc2 hgrf2 hgrc3 hgrf3; obtain ⟨⟨z1c0, z1f0⟩, ⟨z1c1, z1f1⟩, ⟨z1c2, z1f2⟩, ⟨z1c3, z1f3⟩⟩ := cells4 BKgr.out; rw [HXA.out]; clear hb4) | (go_at_call 106; (with_reducible refine (HVB.out _ HG4.out).mono ?_); rintro e w5 ⟨rfl, hb5⟩; have HG5 := Aside0.mk (show Below w.heap.size w w5 from grew_trans HG4.out hb5); replace BKga := Aside0.mk (blk_below (g := ga) BKga.out hb5); replace BKgb := Aside0.mk (blk_below (g := gb) BKgb.out hb5); replace BKgr := Aside0.mk (blk_below (g := gr) BKgr.out hb5); clear x1c0 x1f0 x1c1 x1f1 x1c2 x1f2 x1c3 x1f3 y1c0 y1f0 y1c1 y1f1 y1c2 y1f2 y1c3 y1f3; obtain ⟨⟨x2c0, x2f0⟩, ⟨x2c1, x2f1⟩, ⟨x2c2, x2f2⟩, ⟨x2c3, x2f3⟩⟩ := cells4 BKga.out; obtain ⟨⟨y2c0, y2f0⟩, ⟨y2c1, y2f1⟩, ⟨y2c2, y2f2⟩, ⟨y2c3, y2f3⟩⟩ := cells4 BKgb.out; clear z1c0 z1f0 z1c1 z1f1 z1c2 z1f2 z1c3 z1f3; obtain ⟨⟨z2c0, z2f0⟩, ⟨z2c1, z2f1⟩, ⟨z2c2, z2f2⟩, ⟨z2c3, z2f3⟩⟩ := cells4 BKgr.out; rw [HXB.out]; clear hb5))
      refine bodyPost_ret (results_ct rfl _ _ gr 50 #[.int .i64 0, .slice none 0 0, .slice none 0 0, .slice none 0 0] (0, 0) _ rfl (by (with_reducible repeat (first | refine blk_drewN ?_ _ | refine blk_drew ?_ | refine blk_alloc ?_ _)); refine blk_put (cs := #[.int .i64 0, .slice none 0 0, .slice none 0 0, .slice none 0 0]) ?_ 3 _ rfl; (with_reducible repeat (first | refine blk_drewN ?_ _ | refine blk_drew ?_ | refine blk_alloc ?_ _)); refine blk_put (cs := #[.int .i64 0, .slice none 0 0, .slice none 0 0, .slice none 0 0]) ?_ 2 _ rfl; (with_reducible repeat (first | refine blk_drewN ?_ _ | refine blk_drew ?_ | refine blk_alloc ?_ _)); refine blk_put (cs := #[.int .i64 0, .slice none 0 0, .slice none 0 0, .slice none 0 0]) ?_ 1 _ rfl; (with_reducible repeat (first | refine blk_drewN ?_ _ | refine blk_drew ?_ | refine blk_alloc ?_ _)); refine blk_put (cs := #[.int .i64 0, .slice none 0 0, .slice none 0 0, .slice none 0 0]) ?_ 0 _ rfl; (with_reducible repeat (first | refine blk_drewN ?_ _ | refine blk_drew ?_ | refine blk_alloc ?_ _)); exact BKgr.out) Try.underlying50 rfl (by kernel_rfl)) rfl ?_
      rw [mrg_bad (by unfold mrgOk; rw [HXA.out, HXB.out]; rfl)]
      exact ⟨_, rfl, fun _ _ => tSeg.K_of_M (bad_M _ 0), below_set (below_set (below_set (below_set (HG5.out) GEr.out) GEr.out) GEr.out) GEr.out⟩
    | true =>
      have HXB := Aside0.mk xb
      obtain ⟨fb, eb⟩ := valid_seg xb
      obtain ⟨fb1, fb2, fb3, fb4, fb5, fb6⟩ := fits_parts fb
      clear fb eb fb5 xa xb
      by_cases hbase : b.1 = a.1 + (a.2.1.length : Int)
      case neg =>
        have hne : (b.1 == a.1 + (a.2.1.length : Int)) = false := by simpa using hbase
        go_enter Try.func46, Try.ntmps46
        go_wp2_with (first | ((with_reducible refine gate_dst (N := 2) rfl ?_); refine box_event ?hg (N := 2) ?hd (cs := #[.int .i64 a.1, .slice A1a a.2.1.length c1a, .slice A2a a.2.2.1.length c2a, .slice A3a a.2.2.2.length c3a]) (t := 50) ?hr ?_; (case hd => rfl); (case hg => rfl); (case hr => first | (go_simp; done) | (go_simp; rfl)); intro ga hg_ w1 hbx hbb; have BKga := Aside0.mk hbx; have GEga := Aside0.mk (show w.heap.size ≤ ga from Nat.le_of_eq hg_.symm); have GLga := Aside0.mk (blk_lt hbx); have HBw1 := Aside0.mk hbb; clear hg_ hbb; obtain ⟨⟨hgac0, hgaf0⟩, ⟨hgac1, hgaf1⟩, ⟨hgac2, hgaf2⟩, ⟨hgac3, hgaf3⟩⟩ := cells4 hbx; clear hbx) | ((with_reducible refine gate_dst (N := 3) rfl ?_); refine box_event ?hg (N := 3) ?hd (cs := #[.int .i64 b.1, .slice A1b b.2.1.length c1b, .slice A2b b.2.2.1.length c2b, .slice A3b b.2.2.2.length c3b]) (t := 50) ?hr ?_; (case hd => rfl); (case hg => rfl); (case hr => first | (go_simp; done) | (go_simp; rfl)); intro gb hg_ w2 hbx hbb; have BKgb := Aside0.mk hbx; have GEgb := Aside0.mk (show w1.heap.size ≤ gb from Nat.le_of_eq hg_.symm); have GLgb := Aside0.mk (blk_lt hbx); have HBw2 := Aside0.mk hbb; clear hg_ hbb; obtain ⟨⟨hgbc0, hgbf0⟩, ⟨hgbc1, hgbf1⟩, ⟨hgbc2, hgbf2⟩, ⟨hgbc3, hgbf3⟩⟩ := cells4 hbx; clear hbx; have n_ := Aside0.mk (blk_below (g := ga) BKga.out HBw2.out); clear BKga hgac0 hgaf0 hgac1 hgaf1 hgac2 hgaf2 hgac3 hgaf3; have BKga := n_; clear n_) | ((with_reducible refine gate_dst (N := 4) rfl ?_); refine box_event ?hg (N := 4) ?hd (cs := #[.int .i64 0, .slice none 0 0, .slice none 0 0, .slice none 0 0]) (t := 50) ?hr ?_; (case hd => rfl); (case hg => rfl); (case hr => first | (go_simp; done) | (go_simp; rfl)); intro gr hg_ w3 hbx hbb; have BKgr := Aside0.mk hbx; have GEgr := Aside0.mk (show w2.heap.size ≤ gr from Nat.le_of_eq hg_.symm); have GLgr := Aside0.mk (blk_lt hbx); have HBw3 := Aside0.mk hbb; clear hg_ hbb; obtain ⟨⟨hgrc0, hgrf0⟩, ⟨hgrc1, hgrf1⟩, ⟨hgrc2, hgrf2⟩, ⟨hgrc3, hgrf3⟩⟩ := cells4 hbx; clear hbx; have n_ := Aside0.mk (blk_below (g := ga) BKga.out HBw3.out); clear BKga; have BKga := n_; clear n_; have n_ := Aside0.mk (blk_below (g := gb) BKgb.out HBw3.out); clear BKgb hgbc0 hgbf0 hgbc1 hgbf1 hgbc2 hgbf2 hgbc3 hgbf3; have BKgb := n_; clear n_; have HG3 := Aside0.mk (show Below w.heap.size w w3 from grew_trans (grew_trans HBw1.out HBw2.out) HBw3.out); obtain ⟨⟨x0c0, x0f0⟩, ⟨x0c1, x0f1⟩, ⟨x0c2, x0f2⟩, ⟨x0c3, x0f3⟩⟩ := cells4 BKga.out; obtain ⟨⟨y0c0, y0f0⟩, ⟨y0c1, y0f1⟩, ⟨y0c2, y0f2⟩, ⟨y0c3, y0f3⟩⟩ := cells4 BKgb.out; have GEr := Aside0.mk (show w.heap.size ≤ gr from Nat.le_trans (grew_trans HBw1.out HBw2.out).size GEgr.out)) | (go_at_call 106; (with_reducible refine (HVA.out _ HG3.out).mono ?_); rintro e w4 ⟨rfl, hb4⟩; have HG4 := Aside0.mk (show Below w.heap.size w w4 from grew_trans HG3.out hb4); replace BKga := Aside0.mk (blk_below (g := ga) BKga.out hb4); replace BKgb := Aside0.mk (blk_below (g := gb) BKgb.out hb4); replace BKgr := Aside0.mk (blk_below (g := gr) BKgr.out hb4); clear x0c0 x0f0 x0c1 x0f1 x0c2 x0f2 x0c3 x0f3 y0c0 y0f0 y0c1 y0f1 y0c2 y0f2 y0c3 y0f3; obtain ⟨⟨x1c0, x1f0⟩, ⟨x1c1, x1f1⟩, ⟨x1c2, x1f2⟩, ⟨x1c3, x1f3⟩⟩ := cells4 BKga.out; obtain ⟨⟨y1c0, y1f0⟩, ⟨y1c1, y1f1⟩, ⟨y1c2, y1f2⟩, ⟨y1c3, y1f3⟩⟩ := cells4 BKgb.out; clear hgrc0 hgrf0 hgrc1 hgrf1 hgrc2 hgrf2 hgrc3 hgrf3; obtain ⟨⟨z1c0, z1f0⟩, ⟨z1c1, z1f1⟩, ⟨z1c2, z1f2⟩, ⟨z1c3, z1f3⟩⟩ := cells4 BKgr.out; rw [HXA.out]; clear hb4) | (go_at_call 106; (with_reducible refine (HVB.out _ HG4.out).mono ?_); rintro e w5 ⟨rfl, hb5⟩; have HG5 := Aside0.mk (show Below w.heap.size w w5 from grew_trans HG4.out hb5); replace BKga := Aside0.mk (blk_below (g := ga) BKga.out hb5); replace BKgb := Aside0.mk (blk_below (g := gb) BKgb.out hb5); replace BKgr := Aside0.mk (blk_below (g := gr) BKgr.out hb5); clear x1c0 x1f0 x1c1 x1f1 x1c2 x1f2 x1c3 x1f3 y1c0 y1f0 y1c1 y1f1 y1c2 y1f2 y1c3 y1f3; obtain ⟨⟨x2c0, x2f0⟩, ⟨x2c1, x2f1⟩, ⟨x2c2, x2f2⟩, ⟨x2c3, x2f3⟩⟩ := cells4 BKga.out; obtain ⟨⟨y2c0, y2f0⟩, ⟨y2c1, y2f1⟩, ⟨y2c2, y2f2⟩, ⟨y2c3, y2f3⟩⟩ := cells4 BKgb.out; clear z1c0 z1f0 z1c1 z1f1 z1c2 z1f2 z1c3 z1f3; obtain ⟨⟨z2c0, z2f0⟩, ⟨z2c1, z2f1⟩, ⟨z2c2, z2f2⟩, ⟨z2c3, z2f3⟩⟩ := cells4 BKgr.out; rw [HXB.out]; clear hb5))
        refine bodyPost_ret (results_ct rfl _ _ gr 50 #[.int .i64 0, .slice none 0 0, .slice none 0 0, .slice none 0 0] (0, 0) _ rfl (by (with_reducible repeat (first | refine blk_drewN ?_ _ | refine blk_drew ?_ | refine blk_alloc ?_ _)); refine blk_put (cs := #[.int .i64 0, .slice none 0 0, .slice none 0 0, .slice none 0 0]) ?_ 3 _ rfl; (with_reducible repeat (first | refine blk_drewN ?_ _ | refine blk_drew ?_ | refine blk_alloc ?_ _)); refine blk_put (cs := #[.int .i64 0, .slice none 0 0, .slice none 0 0, .slice none 0 0]) ?_ 2 _ rfl; (with_reducible repeat (first | refine blk_drewN ?_ _ | refine blk_drew ?_ | refine blk_alloc ?_ _)); refine blk_put (cs := #[.int .i64 0, .slice none 0 0, .slice none 0 0, .slice none 0 0]) ?_ 1 _ rfl; (with_reducible repeat (first | refine blk_drewN ?_ _ | refine blk_drew ?_ | refine blk_alloc ?_ _)); refine blk_put (cs := #[.int .i64 0, .slice none 0 0, .slice none 0 0, .slice none 0 0]) ?_ 0 _ rfl; (with_reducible repeat (first | refine blk_drewN ?_ _ | refine blk_drew ?_ | refine blk_alloc ?_ _)); exact BKgr.out) Try.underlying50 rfl (by kernel_rfl)) rfl ?_
        rw [mrg_bad (by unfold mrgOk; rw [HXA.out, HXB.out, decide_eq_false hbase]; rfl)]
        exact ⟨_, rfl, fun _ _ => tSeg.K_of_M (bad_M _ 0), below_set (below_set (below_set (below_set (HG5.out) GEr.out) GEr.out) GEr.out) GEr.out⟩
      case pos =>
        have hbl : a.2.1.length + b.2.1.length ≤ 2097152 := by omega
        have HBE := Aside0.mk hbase
        have hsb := hbase.symm
        clear hbase
        go_enter Try.func46, Try.ntmps46
        go_wp2_with (first | ((with_reducible refine gate_dst (N := 2) rfl ?_); refine box_event ?hg (N := 2) ?hd (cs := #[.int .i64 a.1, .slice A1a a.2.1.length c1a, .slice A2a a.2.2.1.length c2a, .slice A3a a.2.2.2.length c3a]) (t := 50) ?hr ?_; (case hd => rfl); (case hg => rfl); (case hr => first | (go_simp; done) | (go_simp; rfl)); intro ga hg_ w1 hbx hbb; have BKga := Aside0.mk hbx; have GEga := Aside0.mk (show w.heap.size ≤ ga from Nat.le_of_eq hg_.symm); have GLga := Aside0.mk (blk_lt hbx); have HBw1 := Aside0.mk hbb; clear hg_ hbb; obtain ⟨⟨hgac0, hgaf0⟩, ⟨hgac1, hgaf1⟩, ⟨hgac2, hgaf2⟩, ⟨hgac3, hgaf3⟩⟩ := cells4 hbx; clear hbx) | ((with_reducible refine gate_dst (N := 3) rfl ?_); refine box_event ?hg (N := 3) ?hd (cs := #[.int .i64 b.1, .slice A1b b.2.1.length c1b, .slice A2b b.2.2.1.length c2b, .slice A3b b.2.2.2.length c3b]) (t := 50) ?hr ?_; (case hd => rfl); (case hg => rfl); (case hr => first | (go_simp; done) | (go_simp; rfl)); intro gb hg_ w2 hbx hbb; have BKgb := Aside0.mk hbx; have GEgb := Aside0.mk (show w1.heap.size ≤ gb from Nat.le_of_eq hg_.symm); have GLgb := Aside0.mk (blk_lt hbx); have HBw2 := Aside0.mk hbb; clear hg_ hbb; obtain ⟨⟨hgbc0, hgbf0⟩, ⟨hgbc1, hgbf1⟩, ⟨hgbc2, hgbf2⟩, ⟨hgbc3, hgbf3⟩⟩ := cells4 hbx; clear hbx; have n_ := Aside0.mk (blk_below (g := ga) BKga.out HBw2.out); clear BKga hgac0 hgaf0 hgac1 hgaf1 hgac2 hgaf2 hgac3 hgaf3; have BKga := n_; clear n_) | ((with_reducible refine gate_dst (N := 4) rfl ?_); refine box_event ?hg (N := 4) ?hd (cs := #[.int .i64 0, .slice none 0 0, .slice none 0 0, .slice none 0 0]) (t := 50) ?hr ?_; (case hd => rfl); (case hg => rfl); (case hr => first | (go_simp; done) | (go_simp; rfl)); intro gr hg_ w3 hbx hbb; have BKgr := Aside0.mk hbx; have GEgr := Aside0.mk (show w2.heap.size ≤ gr from Nat.le_of_eq hg_.symm); have GLgr := Aside0.mk (blk_lt hbx); have HBw3 := Aside0.mk hbb; clear hg_ hbb; obtain ⟨⟨hgrc0, hgrf0⟩, ⟨hgrc1, hgrf1⟩, ⟨hgrc2, hgrf2⟩, ⟨hgrc3, hgrf3⟩⟩ := cells4 hbx; clear hbx; have n_ := Aside0.mk (blk_below (g := ga) BKga.out HBw3.out); clear BKga; have BKga := n_; clear n_; have n_ := Aside0.mk (blk_below (g := gb) BKgb.out HBw3.out); clear BKgb hgbc0 hgbf0 hgbc1 hgbf1 hgbc2 hgbf2 hgbc3 hgbf3; have BKgb := n_; clear n_; have HG3 := Aside0.mk (show Below w.heap.size w w3 from grew_trans (grew_trans HBw1.out HBw2.out) HBw3.out); obtain ⟨⟨x0c0, x0f0⟩, ⟨x0c1, x0f1⟩, ⟨x0c2, x0f2⟩, ⟨x0c3, x0f3⟩⟩ := cells4 BKga.out; obtain ⟨⟨y0c0, y0f0⟩, ⟨y0c1, y0f1⟩, ⟨y0c2, y0f2⟩, ⟨y0c3, y0f3⟩⟩ := cells4 BKgb.out; have GEr := Aside0.mk (show w.heap.size ≤ gr from Nat.le_trans (grew_trans HBw1.out HBw2.out).size GEgr.out)) | (go_at_call 106; (with_reducible refine (HVA.out _ HG3.out).mono ?_); rintro e w4 ⟨rfl, hb4⟩; have HG4 := Aside0.mk (show Below w.heap.size w w4 from grew_trans HG3.out hb4); replace BKga := Aside0.mk (blk_below (g := ga) BKga.out hb4); replace BKgb := Aside0.mk (blk_below (g := gb) BKgb.out hb4); replace BKgr := Aside0.mk (blk_below (g := gr) BKgr.out hb4); clear x0c0 x0f0 x0c1 x0f1 x0c2 x0f2 x0c3 x0f3 y0c0 y0f0 y0c1 y0f1 y0c2 y0f2 y0c3 y0f3; obtain ⟨⟨x1c0, x1f0⟩, ⟨x1c1, x1f1⟩, ⟨x1c2, x1f2⟩, ⟨x1c3, x1f3⟩⟩ := cells4 BKga.out; obtain ⟨⟨y1c0, y1f0⟩, ⟨y1c1, y1f1⟩, ⟨y1c2, y1f2⟩, ⟨y1c3, y1f3⟩⟩ := cells4 BKgb.out; clear hgrc0 hgrf0 hgrc1 hgrf1 hgrc2 hgrf2 hgrc3 hgrf3; obtain ⟨⟨z1c0, z1f0⟩, ⟨z1c1, z1f1⟩, ⟨z1c2, z1f2⟩, ⟨z1c3, z1f3⟩⟩ := cells4 BKgr.out; rw [HXA.out]; clear hb4) | (go_at_call 106; (with_reducible refine (HVB.out _ HG4.out).mono ?_); rintro e w5 ⟨rfl, hb5⟩; have HG5 := Aside0.mk (show Below w.heap.size w w5 from grew_trans HG4.out hb5); replace BKga := Aside0.mk (blk_below (g := ga) BKga.out hb5); replace BKgb := Aside0.mk (blk_below (g := gb) BKgb.out hb5); replace BKgr := Aside0.mk (blk_below (g := gr) BKgr.out hb5); clear x1c0 x1f0 x1c1 x1f1 x1c2 x1f2 x1c3 x1f3 y1c0 y1f0 y1c1 y1f1 y1c2 y1f2 y1c3 y1f3; obtain ⟨⟨x2c0, x2f0⟩, ⟨x2c1, x2f1⟩, ⟨x2c2, x2f2⟩, ⟨x2c3, x2f3⟩⟩ := cells4 BKga.out; obtain ⟨⟨y2c0, y2f0⟩, ⟨y2c1, y2f1⟩, ⟨y2c2, y2f2⟩, ⟨y2c3, y2f3⟩⟩ := cells4 BKgb.out; clear z1c0 z1f0 z1c1 z1f1 z1c2 z1f2 z1c3 z1f3; obtain ⟨⟨z2c0, z2f0⟩, ⟨z2c1, z2f1⟩, ⟨z2c2, z2f2⟩, ⟨z2c3, z2f3⟩⟩ := cells4 BKgr.out; rw [HXB.out]; clear hb5) | (at_builtin; refine Kd.R_append_rows (far kB w) (Rr := kB.K w) (w0 := w) w.heap.size rfl (.tmp 27) (.tmp 29) 41 33 (.slice none 0 0) 24 rfl Try.underlying41 infoBB rfl Nat.zero_lt_one (by omega) (.slice none 0 0) [] a.2.1 A1a a.2.1.length c1a (fun _ => True) (fun _ => False) rfl rfl (Kd.R_nil _ _ _ _ _) (far_reads C1a.out HG5.out) (fun _ _ h => h) (fun _ h => h.elim) (fun _ _ => trivial) HG5.out HG5.out.size (by simp; omega) ?_; intro v6 w6 hR6 hB6 hg6 hat6; obtain ⟨A6, c6, rfl⟩ := Kd.R_slice hR6; have HR6 := Aside0.mk (show (far kB w).R 33 w6 w.heap.size (fun _ => True) (.slice A6 a.2.1.length c6) a.2.1 from hR6); have HG6 := Aside0.mk hB6; have HO6 := Aside0.mk (show ∀ k, (Value.slice A6 a.2.1.length c6).ownBlock = some k → w5.heap.size ≤ k from fun k hk => by rcases hat6 with h | ⟨q, h, hq⟩; (have h' : (Value.slice A6 a.2.1.length c6).ownBlock = none := h; rw [h'] at hk; cases hk); (have h' : (Value.slice A6 a.2.1.length c6).ownBlock = some q := h; rw [h'] at hk; injection hk with hk; omega)); have HL5 := Aside0.mk (show ga < w5.heap.size ∧ gb < w5.heap.size ∧ gr < w5.heap.size from ⟨blk_lt BKga.out, blk_lt BKgb.out, blk_lt BKgr.out⟩); replace BKga := Aside0.mk (blk_grown (g := ga) BKga.out hg6 (fun e => by cases e)); replace BKgb := Aside0.mk (blk_grown (g := gb) BKgb.out hg6 (fun e => by cases e)); replace BKgr := Aside0.mk (blk_grown (g := gr) BKgr.out hg6 (fun e => by cases e)); clear x2c0 x2f0 x2c1 x2f1 x2c2 x2f2 x2c3 x2f3 y2c0 y2f0 y2c1 y2f1 y2c2 y2f2 y2c3 y2f3; obtain ⟨⟨x3c0, x3f0⟩, ⟨x3c1, x3f1⟩, ⟨x3c2, x3f2⟩, ⟨x3c3, x3f3⟩⟩ := cells4 BKga.out; obtain ⟨⟨y3c0, y3f0⟩, ⟨y3c1, y3f1⟩, ⟨y3c2, y3f2⟩, ⟨y3c3, y3f3⟩⟩ := cells4 BKgb.out; clear hR6 hB6 hg6 hat6) | (at_builtin; refine Kd.R_append_rows (far kB w) (Rr := kB.K w) (w0 := w) w.heap.size rfl (.tmp 31) (.tmp 33) 41 33 (.slice none 0 0) 24 rfl Try.underlying41 infoBB rfl Nat.zero_lt_one (by omega) (.slice A6 a.2.1.length c6) a.2.1 b.2.1 A1b b.2.1.length c1b (fun _ => True) (fun _ => False) rfl rfl HR6.out (far_reads C1b.out HG6.out) (fun _ _ h => h) (fun _ h => h.elim) (fun _ _ => trivial) HG6.out HG6.out.size (by omega) ?_; intro v7 w7 hR7 hB7 hg7 hat7; obtain ⟨A7, c7, rfl⟩ := Kd.R_slice hR7; have HR7 := Aside0.mk (show (far kB w).R 33 w7 w.heap.size (fun _ => True) (.slice A7 (a.2.1 ++ b.2.1).length c7) (a.2.1 ++ b.2.1) from hR7); have HG7 := Aside0.mk hB7; replace BKga := Aside0.mk (blk_grown (g := ga) BKga.out hg7 (fun e => by have h1 := HO6.out _ e.symm; have h2 := HL5.out; omega)); replace BKgb := Aside0.mk (blk_grown (g := gb) BKgb.out hg7 (fun e => by have h1 := HO6.out _ e.symm; have h2 := HL5.out; omega)); replace BKgr := Aside0.mk (blk_grown (g := gr) BKgr.out hg7 (fun e => by have h1 := HO6.out _ e.symm; have h2 := HL5.out; omega)); clear x3c0 x3f0 x3c1 x3f1 x3c2 x3f2 x3c3 x3f3 y3c0 y3f0 y3c1 y3f1 y3c2 y3f2 y3c3 y3f3; obtain ⟨⟨x4c0, x4f0⟩, ⟨x4c1, x4f1⟩, ⟨x4c2, x4f2⟩, ⟨x4c3, x4f3⟩⟩ := cells4 BKga.out; obtain ⟨⟨y4c0, y4f0⟩, ⟨y4c1, y4f1⟩, ⟨y4c2, y4f2⟩, ⟨y4c3, y4f3⟩⟩ := cells4 BKgb.out; obtain ⟨⟨z4c0, z4f0⟩, ⟨z4c1, z4f1⟩, ⟨z4c2, z4f2⟩, ⟨z4c3, z4f3⟩⟩ := cells4 BKgr.out; clear z2c0 z2f0 z2c1 z2f1 z2c2 z2f2 z2c3 z2f3 hR7 hB7 hg7 hat7))
        obtain ⟨B7, e7, ee7, hc7, hr7⟩ := Kd.R_reads HR7.out
        obtain ⟨rfl, rfl⟩ : A7 = B7 ∧ c7 = e7 := by injection ee7 with x1 x2 x3; exact ⟨x1, x3⟩
        have hs7 : smallBB (a.2.1 ++ b.2.1) := by show _ + _ ≤ _; rw [List.length_append, total_append]; omega
        have hc8 := far_C hr7 HG7.out
        have HC7 := Aside0.mk hc7
        have HC8 := Aside0.mk hc8
        have hbc := bytes_calls A7 (a.2.1.length + b.2.1.length) c7 (a.2.1 ++ b.2.1) (List.length_append ..).symm w7 hc8 hc7 hs7
        rw [total_append] at hbc
        have HS7 := Aside0.mk hs7
        have HBC := Aside0.mk hbc
        have HYY := Aside0.mk (show Bytes (a.2.1 ++ b.2.1) from fun l hl => by
          rcases List.mem_append.1 hl with h | h
          · exact HYA.out l h
          · exact HYB.out l h)
        clear ee7 hc7 hr7 hs7 hc8 hbc
        by_cases htot : totalB a.2.1 + totalB b.2.1 ≤ 20000
        case neg =>
          have htz : ((totalB a.2.1 + totalB b.2.1 : Nat) : Int) > 20000 := by omega
          go_at_call 107
          refine HBC.out.mono ?_
          rintro e w8 ⟨rfl, hd8⟩
          have HG8 := Aside0.mk (show Below w.heap.size w w8 from grew_trans HG7.out (below_of_drawn hd8))
          replace BKga := Aside0.mk (blk_below (g := ga) BKga.out (below_of_drawn hd8)); replace BKgb := Aside0.mk (blk_below (g := gb) BKgb.out (below_of_drawn hd8)); replace BKgr := Aside0.mk (blk_below (g := gr) BKgr.out (below_of_drawn hd8)); clear x4c0 x4f0 x4c1 x4f1 x4c2 x4f2 x4c3 x4f3 y4c0 y4f0 y4c1 y4f1 y4c2 y4f2 y4c3 y4f3; obtain ⟨⟨x5c0, x5f0⟩, ⟨x5c1, x5f1⟩, ⟨x5c2, x5f2⟩, ⟨x5c3, x5f3⟩⟩ := cells4 BKga.out; obtain ⟨⟨y5c0, y5f0⟩, ⟨y5c1, y5f1⟩, ⟨y5c2, y5f2⟩, ⟨y5c3, y5f3⟩⟩ := cells4 BKgb.out; clear z4c0 z4f0 z4c1 z4f1 z4c2 z4f2 z4c3 z4f3; obtain ⟨⟨z5c0, z5f0⟩, ⟨z5c1, z5f1⟩, ⟨z5c2, z5f2⟩, ⟨z5c3, z5f3⟩⟩ := cells4 BKgr.out
          go_wp2
          refine bodyPost_ret (results_ct rfl _ _ gr 50 #[.int .i64 0, .slice none 0 0, .slice none 0 0, .slice none 0 0] (0, 0) _ rfl (by (with_reducible repeat (first | refine blk_drewN ?_ _ | refine blk_drew ?_ | refine blk_alloc ?_ _)); refine blk_put (cs := #[.int .i64 0, .slice none 0 0, .slice none 0 0, .slice none 0 0]) ?_ 3 _ rfl; (with_reducible repeat (first | refine blk_drewN ?_ _ | refine blk_drew ?_ | refine blk_alloc ?_ _)); refine blk_put (cs := #[.int .i64 0, .slice none 0 0, .slice none 0 0, .slice none 0 0]) ?_ 2 _ rfl; (with_reducible repeat (first | refine blk_drewN ?_ _ | refine blk_drew ?_ | refine blk_alloc ?_ _)); refine blk_put (cs := #[.int .i64 0, .slice none 0 0, .slice none 0 0, .slice none 0 0]) ?_ 1 _ rfl; (with_reducible repeat (first | refine blk_drewN ?_ _ | refine blk_drew ?_ | refine blk_alloc ?_ _)); refine blk_put (cs := #[.int .i64 0, .slice none 0 0, .slice none 0 0, .slice none 0 0]) ?_ 0 _ rfl; (with_reducible repeat (first | refine blk_drewN ?_ _ | refine blk_drew ?_ | refine blk_alloc ?_ _)); exact BKgr.out) Try.underlying50 rfl (by kernel_rfl)) rfl ?_
          rw [mrg_bad (by unfold mrgOk; rw [HXA.out, HXB.out, decide_eq_true HBE.out, decide_eq_false htot]; rfl)]
          exact ⟨_, rfl, fun _ _ => tSeg.K_of_M (bad_M _ 0), below_set (below_set (below_set (below_set (HG8.out) GEr.out) GEr.out) GEr.out) GEr.out⟩
        case pos =>
          have htz : ¬ ((totalB a.2.1 + totalB b.2.1 : Nat) : Int) > 20000 := by omega
          go_at_call 107
          refine HBC.out.mono ?_
          rintro e w8 ⟨rfl, hd8⟩
          have HG8 := Aside0.mk (show Below w.heap.size w w8 from grew_trans HG7.out (below_of_drawn hd8))
          replace BKga := Aside0.mk (blk_below (g := ga) BKga.out (below_of_drawn hd8)); replace BKgb := Aside0.mk (blk_below (g := gb) BKgb.out (below_of_drawn hd8)); replace BKgr := Aside0.mk (blk_below (g := gr) BKgr.out (below_of_drawn hd8)); clear x4c0 x4f0 x4c1 x4f1 x4c2 x4f2 x4c3 x4f3 y4c0 y4f0 y4c1 y4f1 y4c2 y4f2 y4c3 y4f3; obtain ⟨⟨x5c0, x5f0⟩, ⟨x5c1, x5f1⟩, ⟨x5c2, x5f2⟩, ⟨x5c3, x5f3⟩⟩ := cells4 BKga.out; obtain ⟨⟨y5c0, y5f0⟩, ⟨y5c1, y5f1⟩, ⟨y5c2, y5f2⟩, ⟨y5c3, y5f3⟩⟩ := cells4 BKgb.out; clear z4c0 z4f0 z4c1 z4f1 z4c2 z4f2 z4c3 z4f3; obtain ⟨⟨z5c0, z5f0⟩, ⟨z5c1, z5f1⟩, ⟨z5c2, z5f2⟩, ⟨z5c3, z5f3⟩⟩ := cells4 BKgr.out
          have hbu := build_calls' a.1 A7 (a.2.1.length + b.2.1.length) c7 (a.2.1 ++ b.2.1) (List.length_append ..).symm w8 (Kd.C_below HC8.out (below_of_drawn hd8)) HC7.out HYY.out HS7.out fa1 fa2
          go_wp2_with fail
          go_at_call 92
          refine hbu.mono ?_
          rintro e w9 ⟨D1, d1, D2, d2, D3, d3, rfl, m1, m2, m3, hg9⟩
          have HG9 := Aside0.mk (show Below w.heap.size w w9 from grew_trans HG8.out hg9)
          have HRL := Aside0.mk (blk_lt BKgr.out)
          have M1 := Aside0.mk m1
          have M2 := Aside0.mk m2
          have M3 := Aside0.mk m3
          have n_ := Aside0.mk (blk_below (g := gr) BKgr.out hg9); clear BKgr; have BKgr := n_; clear n_; clear z5c0 z5f0 z5c1 z5f1 z5c2 z5f2 z5c3 z5f3; obtain ⟨⟨z6c0, z6f0⟩, ⟨z6c1, z6f1⟩, ⟨z6c2, z6f2⟩, ⟨z6c3, z6f3⟩⟩ := cells4 BKgr.out
          clear m1 m2 m3 hbu
          go_wp2
          refine bodyPost_ret (results_ct rfl _ _ gr 50 #[.int .i64 a.1, .slice D1 (a.2.1.length + b.2.1.length) d1, .slice D2 (keys (a.2.1 ++ b.2.1)).length d2, .slice D3 (keys (a.2.1 ++ b.2.1)).length d3] (0, 0) _ rfl (by (with_reducible repeat (first | refine blk_drewN ?_ _ | refine blk_drew ?_ | refine blk_alloc ?_ _)); refine blk_put (cs := #[.int .i64 a.1, .slice D1 (a.2.1.length + b.2.1.length) d1, .slice D2 (keys (a.2.1 ++ b.2.1)).length d2, .slice none 0 0]) ?_ 3 _ rfl; (with_reducible repeat (first | refine blk_drewN ?_ _ | refine blk_drew ?_ | refine blk_alloc ?_ _)); refine blk_put (cs := #[.int .i64 a.1, .slice D1 (a.2.1.length + b.2.1.length) d1, .slice none 0 0, .slice none 0 0]) ?_ 2 _ rfl; (with_reducible repeat (first | refine blk_drewN ?_ _ | refine blk_drew ?_ | refine blk_alloc ?_ _)); refine blk_put (cs := #[.int .i64 a.1, .slice none 0 0, .slice none 0 0, .slice none 0 0]) ?_ 1 _ rfl; (with_reducible repeat (first | refine blk_drewN ?_ _ | refine blk_drew ?_ | refine blk_alloc ?_ _)); refine blk_put (cs := #[.int .i64 0, .slice none 0 0, .slice none 0 0, .slice none 0 0]) ?_ 0 _ rfl; (with_reducible repeat (first | refine blk_drewN ?_ _ | refine blk_drew ?_ | refine blk_alloc ?_ _)); exact BKgr.out) Try.underlying50 rfl (by kernel_rfl)) rfl ?_
          rw [mrg_good (by unfold mrgOk; rw [HXA.out, HXB.out, decide_eq_true HBE.out, decide_eq_true htot]; rfl)]
          refine ⟨_, rfl, ?_, below_set (below_set (below_set (below_set (HG9.out) GEr.out) GEr.out) GEr.out) GEr.out⟩
          exact fun W' hK => ⟨[_, _, _, _], rfl, _, _, rfl, rfl, _, _, rfl, comp HelpBB.tBB M1.out gr HRL.out HG8.out.size _ _ _ _ hK, _, _, rfl, comp HelpI.tI M2.out gr HRL.out HG8.out.size _ _ _ _ hK, _, rfl, comp HelpII.tII M3.out gr HRL.out HG8.out.size _ _ _ _ hK⟩
end Go.Proofs.Ytmgmdnmfalepkaa.Mrg
