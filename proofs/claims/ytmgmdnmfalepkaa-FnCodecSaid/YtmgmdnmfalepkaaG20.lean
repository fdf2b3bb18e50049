/- Parts of the proof (see the row's own text): LawCod. -/
import Derived.Test.YtmgmdnmfalepkaaG00
import Derived.Test.YtmgmdnmfalepkaaG17
import Derived.Test.YtmgmdnmfalepkaaG15
import Derived.Test.YtmgmdnmfalepkaaG18
import Derived.Test.YtmgmdnmfalepkaaG19
import Derived.Deep.RegionHeld3
import Derived.Deep.DeepCutAuto
namespace Go.Proofs.Ytmgmdnmfalepkaa.LawCod
open Go.RowKit Go.Proofs.YtmgmdnmfalepkaaW.PrintWords Go.Proofs.YtmgmdnmfalepkaaW.PrintMore Go.Proofs.Ytmgmdnmfalepkaa.Kit Go.Proofs.Ytmgmdnmfalepkaa.PKit Go.Proofs.Ytmgmdnmfalepkaa.Ty Go.Proofs.Ytmgmdnmfalepkaa.PSeg Go.Proofs.Ytmgmdnmfalepkaa.PEnc Go.Proofs.Ytmgmdnmfalepkaa.PDec Go.Proofs.Ytmgmdnmfalepkaa.HelpBB Go.Proofs.Ytmgmdnmfalepkaa.HelpSeg Go.Proofs.Ytmgmdnmfalepkaa.Cod
set_option linter.unusedVariables false
theorem cells4 {w : World} {g : Nat} {t : TypeId} {a0 a1 a2 a3 : Value} (h : w.heap[g]? = some (.cells #[a0, a1, a2, a3] t (0, 0))) : (w.cell? ⟨g, 0, none⟩ = some a0 ∧ w.frozen? ⟨g, 0, none⟩ = false) ∧ (w.cell? ⟨g, 1, none⟩ = some a1 ∧ w.frozen? ⟨g, 1, none⟩ = false) ∧ (w.cell? ⟨g, 2, none⟩ = some a2 ∧ w.frozen? ⟨g, 2, none⟩ = false) ∧ (w.cell? ⟨g, 3, none⟩ = some a3 ∧ w.frozen? ⟨g, 3, none⟩ = false) := ⟨⟨(blk_cell h 0).trans rfl, blk_frozen h 0⟩, ⟨(blk_cell h 1).trans rfl, blk_frozen h 1⟩, ⟨(blk_cell h 2).trans rfl, blk_frozen h 2⟩, ⟨(blk_cell h 3).trans rfl, blk_frozen h 3⟩⟩
theorem seg_parts {w : World} {x : SegT} {v0 v1 v2 v3 : Value} (h : tSeg.K w x (.agg #[v0, v1, v2, v3])) : HelpBB.tBB.K w x.2.1 v1 ∧ HelpI.tI.K w x.2.2.1 v2 ∧ HelpII.tII.K w x.2.2.2 v3 := by
 obtain ⟨l, el, u0, r0, e0, g0, u1, r1, e1, g1, u2, r2, e2, g2, u3, e3, g3⟩ := h
 subst e3 e2 e1 e0
 injection el with el
 have el' := congrArg Array.toList el
 simp only [List.cons.injEq, and_true] at el'
 obtain ⟨rfl, rfl, rfl, rfl⟩ := el'
 exact ⟨g1, g2, g3⟩
theorem small_parts' {x : SegT} (h : HelpSeg.smallSeg x) : smallBB x.2.1 ∧ x.2.2.1.length ≤ 1048576 ∧ x.2.2.2.length + HelpII.totalI x.2.2.2 ≤ 1048576 := by
 have h' : (x.2.1.length + HelpBB.totalB x.2.1) + x.2.2.1.length + (x.2.2.2.length + HelpII.totalI x.2.2.2) ≤ 1048576 := h
 exact ⟨by show _ ≤ _; omega, zq3, zq3⟩
theorem in_total : ∀ (L : List (List Int)), ∀ l ∈ L, l.length ≤ totalB L
 | [], l, h => by cases h
 | x :: r, l, h => by
  rcases List.mem_cons.1 h with rfl | h
  ·show _ ≤ _ + _; omega
  ·have := in_total r l h; show _ ≤ _ + _; omega
theorem in_totalI : ∀ (L : List (List Int)), ∀ l ∈ L, l.length ≤ HelpII.totalI L
 | [], l, h => by cases h
 | x :: r, l, h => by
  rcases List.mem_cons.1 h with rfl | h
  ·show _ ≤ _ + _; omega
  ·have := in_totalI r l h; show _ ≤ _ + _; omega
theorem below_of_drawn {w w' : World} (h : Drawn0 w w') : Below w.heap.size w w' := by first | exact h.below | exact pw_grow (by first | exact h | exact h.below)
theorem same_bytes (A B : Option Addr) (c d : Nat) (l : List Int) (w : World) (h1 : HelpB.tB.K w l (.slice A l.length c)) (h2 : HelpB.tB.K w l (.slice B l.length d)) (hs : l.length ≤ 1048576) :
  Calls Try.prog 59 #[.slice A l.length c, .slice B l.length d] w fun e w' => e = .returned (.bool true) ∧ Below w.heap.size w w' := by
 obtain ⟨A', c', e1, q1, r1⟩ := h1
 obtain ⟨B', d', e2, q2, r2⟩ := h2
 obtain ⟨rfl, rfl⟩ : A = A' ∧ c = c' := by injection e1 with x1 x2 x3; exact ⟨x1, x3⟩
 obtain ⟨rfl, rfl⟩ : B = B' ∧ d = d' := by injection e2 with x1 x2 x3; exact ⟨x1, x3⟩
 obtain ⟨k, hk⟩ := (PSame.bytes_ev l zq3).rounds
 exact (C.laws_sameBytes.calls k A c l B d l true w r1 q1 r2 q2 hk).mono (fun e w' h => ⟨h.1, below_of_drawn h.2⟩)
theorem same_ints (A : Option Addr) (c : Nat) (B : Option Addr) (d : Nat) (l : List Int) (w : World) (h1 : Kd.C (Kd.int .i64) w A l.length l) (q1 : l.length ≤ c) (h2 : Kd.C (Kd.int .i64) w B l.length l) (q2 : l.length ≤ d) (hs : l.length ≤ 1099511627776) :
  Calls Try.prog 122 #[.slice A l.length c, .slice B l.length d] w fun e w' => e = .returned (.bool true) ∧ Drawn0 w w' := by
 obtain ⟨k, hk⟩ := (PSame.ints_ev l hs).rounds
 exact C.laws_sameInts.calls k A c l B d l true w h1 q1 h2 q2 hk
theorem at_post {w w2 : World} {A : Option Addr} {n : Nat} {Ps : List (List Int)} (h : Kd.C HelpII.kI w A n Ps) (hb : Below w.heap.size w w2) (i : Nat) (hi : i < n) : ∃ (ad : Addr) (X : Option Addr) (cX : Nat), A = some ad ∧ w2.cell? (ad.add i) = some (.slice X (Ps.getD i []).length cX) ∧ (Ps.getD i []).length ≤ cX ∧ Kd.C (Kd.int .i64) w2 X (Ps.getD i []).length (Ps.getD i []) := by
 obtain ⟨ad, u, e, hx, ⟨X, cX, eu, hl, hC⟩⟩ := get_one (d := HelpII.kI) rfl h [] i hi
 have eu' : u = .slice X (Ps.getD i []).length cX := by injection eu
 subst eu'
 exact ⟨ad, X, cX, e, (hb.cell (World.block_lt_of_cell? w _ hx)).trans hx, hl, Kd.C_below hC hb⟩
set_option maxRecDepth 100000 in
set_option maxHeartbeats 4000000 in
theorem same_seg (R : SegT) (v1 v2 : Value) (w : World) (h1 : tSeg.K w R v1) (h2 : tSeg.K w R v2) (hs : HelpSeg.smallSeg R) :
  Calls Try.prog 60 #[v1, v2] w fun e w' => e = .returned (.bool true) ∧ Below w.heap.size w w' := by
 have hu := Try.underlying50
 obtain ⟨p1, p2, p3⟩ := small_parts' hs
 have p1' : R.2.1.length + totalB R.2.1 ≤ 1048576 := p1
 have PI := zA (show ∀ l ∈ R.2.2.2, l.length ≤ 1048576 from fun l hl => by have := in_totalI R.2.2.2 l hl; omega)
 obtain ⟨A1, c1, A2, c2, A3, c3, rfl⟩ := HelpSeg.form h1
 obtain ⟨⟨B1, d1, e1, q1, r1⟩, ⟨B2, d2, e2, q2, r2⟩, ⟨B3, d3, e3, q3, r3⟩⟩ := seg_parts h1
 obtain ⟨rfl, rfl⟩ : A1 = B1 ∧ c1 = d1 := by injection e1 with x1 x2 x3; exact ⟨x1, x3⟩
 obtain ⟨rfl, rfl⟩ : A2 = B2 ∧ c2 = d2 := by injection e2 with x1 x2 x3; exact ⟨x1, x3⟩
 obtain ⟨rfl, rfl⟩ : A3 = B3 ∧ c3 = d3 := by injection e3 with x1 x2 x3; exact ⟨x1, x3⟩
 obtain ⟨E1, f1, E2, f2, E3, f3, rfl⟩ := HelpSeg.form h2
 obtain ⟨⟨B1, d1, g1, s1, t1⟩, ⟨B2, d2, g2, s2, t2⟩, ⟨B3, d3, g3, s3, t3⟩⟩ := seg_parts h2
 obtain ⟨rfl, rfl⟩ : E1 = B1 ∧ f1 = d1 := by injection g1 with x1 x2 x3; exact ⟨x1, x3⟩
 obtain ⟨rfl, rfl⟩ : E2 = B2 ∧ f2 = d2 := by injection g2 with x1 x2 x3; exact ⟨x1, x3⟩
 obtain ⟨rfl, rfl⟩ : E3 = B3 ∧ f3 = d3 := by injection g3 with x1 x2 x3; exact ⟨x1, x3⟩
 obtain ⟨k, hk⟩ := (PSame.texts_ev R.2.1 zq3 (fun l hl => by have := in_total _ l hl; omega)).rounds
 have HK := zA hk
 have Q1 := zA (And.intro q1 r1)
 have Q2 := zA (And.intro q2 r2)
 have Q3 := zA (And.intro q3 r3)
 have S1 := zA (And.intro s1 t1)
 have S2 := zA (And.intro s2 t2)
 have S3 := zA (And.intro s3 t3)
 clear hk q1 r1 q2 r2 q3 r3 s1 t1 s2 t2 s3 t3 e1 e2 e3 g1 g2 g3 h1 h2 hs p1 p1'
 go_enter Try.func60, Try.ntmps60
 go_wp2_with (first | ((with_reducible refine gate_dst (N := 2) rfl ?_); refine box_event ?hg (N := 2) ?hd (cs := #[.int .i64 R.1, .slice A1 R.2.1.length c1, .slice A2 R.2.2.1.length c2, .slice A3 R.2.2.2.length c3]) (t := 50) ?hr ?_; (case hd => rfl); (case hg => rfl); (case hr => first | (go_simp; done) | (go_simp; rfl)); intro ga hg_ w1 hbx hbb; have BKga := zA hbx; have GEga := zA (show w.heap.size ≤ ga from Nat.le_of_eq hg_.symm); have GLga := zA (blk_lt hbx); have HBw1 := zA hbb; clear hg_ hbb; obtain ⟨⟨hgac0, hgaf0⟩, ⟨hgac1, hgaf1⟩, ⟨hgac2, hgaf2⟩, ⟨hgac3, hgaf3⟩⟩ := cells4 hbx; clear hbx) | ((with_reducible refine gate_dst (N := 3) rfl ?_); refine box_event ?hg (N := 3) ?hd (cs := #[.int .i64 R.1, .slice E1 R.2.1.length f1, .slice E2 R.2.2.1.length f2, .slice E3 R.2.2.2.length f3]) (t := 50) ?hr ?_; (case hd => rfl); (case hg => rfl); (case hr => first | (go_simp; done) | (go_simp; rfl)); intro gb hg_ w2 hbx hbb; have BKgb := zA hbx; have GEgb := zA (show w1.heap.size ≤ gb from Nat.le_of_eq hg_.symm); have GLgb := zA (blk_lt hbx); have HBw2 := zA hbb; clear hg_ hbb; obtain ⟨⟨hgbc0, hgbf0⟩, ⟨hgbc1, hgbf1⟩, ⟨hgbc2, hgbf2⟩, ⟨hgbc3, hgbf3⟩⟩ := cells4 hbx; clear hbx; have n_ := zA (blk_below BKga.out HBw2.out); clear BKga; have BKga := n_; clear n_; obtain ⟨⟨y0, yf0⟩, ⟨y1, yf1⟩, ⟨y2, yf2⟩, ⟨y3, yf3⟩⟩ := cells4 BKga.out))
 have HB := zA (show Below w.heap.size w w2 from grew_trans HBw1.out HBw2.out)
 go_at_call 121
 refine (C.laws_sameTexts.calls k A1 c1 R.2.1 E1 f1 R.2.1 true _ (Kd.C_below Q1.out.2 HB.out) Q1.out.1 (Kd.C_below S1.out.2 HB.out) S1.out.1 HK.out).mono ?_
 rintro e w3 ⟨rfl, ⟨m3, rfl⟩⟩
 go_wp2_with fail
 go_at_call 122
 refine (same_ints A2 c2 E2 f2 R.2.2.1 _ (Kd.C_drewN (Kd.C_below Q2.out.2 HB.out) _) Q2.out.1 (Kd.C_drewN (Kd.C_below S2.out.2 HB.out) _) S2.out.1 zq3).mono ?_
 rintro e w4 ⟨rfl, ⟨m4, rfl⟩⟩
 go_wp2_with fail
 go_loopg [5] R.2.2.2.length (fun gg s5 wr => ∃ i : Nat, i ≤ R.2.2.2.length ∧ R.2.2.2.length - i ≤ gg ∧ s5 = .int .i64 (i : Int) ∧ Drawn0 w2 wr)
 case atStart => exact ⟨0, zq3, zq3, rfl, zq10⟩
 case round =>
  obtain ⟨i, hi, hg, rfl, ⟨m, rfl⟩⟩ := hrel
  by_cases hlt : i < R.2.2.2.length
  ·have hlz : (i : Int) < (R.2.2.2.length : Int) := by omega
   obtain ⟨adx, AX, cX, eX, hxX, hqX, hcX⟩ := at_post Q3.out.2 HB.out i hlt
   obtain ⟨ady, AY, cY, eY, hxY, hqY, hcY⟩ := at_post S3.out.2 HB.out i hlt
   have hl0 : (R.2.2.2.getD i []).length ≤ 1048576 := PI.out _ (by rw [List.getD, List.getElem?_eq_getElem hlt]; exact List.getElem_mem hlt)
   obtain ⟨P, hP⟩ : ∃ P, R.2.2.2.getD i [] = P := ⟨_, rfl⟩
   rw [hP] at hl0 hxX hqX hcX hxY hqY hcY
   clear hP
   have XQ := zA hqX
   have YQ := zA hqY
   have XC := zA hcX
   have YC := zA hcY
   subst eX eY
   clear hqX hqY hcX hcY
   have HS := zA (show ∀ W_ : World, Below w2.heap.size w2 W_ → (W_.cell? ⟨ga, 3, none⟩ = some (.slice (some adx) R.2.2.2.length c3) ∧ W_.cell? ⟨gb, 3, none⟩ = some (.slice (some ady) R.2.2.2.length f3) ∧ W_.cell? (adx.add i) = some (.slice AX P.length cX) ∧ W_.cell? (ady.add i) = some (.slice AY P.length cY)) from fun W_ hW => ⟨(hW.cell (World.block_lt_of_cell? w2 _ (cells4 BKga.out).2.2.2.1)).trans (cells4 BKga.out).2.2.2.1, (hW.cell (World.block_lt_of_cell? w2 _ (cells4 BKgb.out).2.2.2.1)).trans (cells4 BKgb.out).2.2.2.1, (hW.cell (World.block_lt_of_cell? w2 _ hxX)).trans hxX, (hW.cell (World.block_lt_of_cell? w2 _ hxY)).trans hxY⟩)
   go_wp2_with fail
   go_region_held3 (fun W_ => W_.cell? ⟨ga, 3, none⟩ = some (.slice (some adx) R.2.2.2.length c3) ∧ W_.cell? ⟨gb, 3, none⟩ = some (.slice (some ady) R.2.2.2.length f3) ∧ W_.cell? (adx.add i) = some (.slice AX P.length cX) ∧ W_.cell? (ady.add i) = some (.slice AY P.length cY)) ((refine HS.out _ ?_; repeat (with_reducible first | exact Below.refl _ _ | refine below_drew1 ?_ | refine pw_below_drewN ?_ _))) (first | (go_at_call 122; (with_reducible refine (same_ints AX cX AY cY (P) _ ?h1 XQ.out ?h2 YQ.out zq3).mono ?_); (case h1 => repeat (first | exact XC.out | (with_reducible refine Kd.C_drewN ?_ _) | (with_reducible refine Kd.C_drew ?_))); (case h2 => repeat (first | exact YC.out | (with_reducible refine Kd.C_drewN ?_ _) | (with_reducible refine Kd.C_drew ?_))); rintro e w5 ⟨rfl, ⟨m5, rfl⟩⟩))
   all_goals go_wp2_with fail
   go_roundg (R.2.2.2.length - (i + 1))
   case measure => omega
   case rel => exact ⟨i + 1, zq3, zq3, by go_num, zq10⟩
  ·have hlz : ¬ (i : Int) < (R.2.2.2.length : Int) := by omega
   go_wp2_with fail
   go_ret
   exact ⟨rfl, (by repeat (first | exact HB.out | apply pw_below_drewN))⟩
set_option maxRecDepth 100000 in
set_option maxHeartbeats 4000000 in
theorem law_calls (x0 : List Int) (v0 : Value) (w : World) (h0 : HelpB.tB.K w x0 v0) (hb : ∀ x ∈ x0, 0 ≤ x ∧ x ≤ 255) :
  Calls Try.prog 11 #[v0] w fun e w' => e = .returned (.bool true) ∧ Below w.heap.size w w' := by
 have huS := Try.underlying50
 obtain ⟨A0, c0, rfl, hc0, hr0⟩ := h0
 have hm0 := hr0.2.1
 have C0 := zA hc0
 have R0 := zA hr0
 clear hc0 hr0
 by_cases q0 : 1048576 < x0.length
 ·have qz0 : (1048576 : Int) < (x0.length : Int) := by omega
  go_enter Try.func11, Try.ntmps11
  go_wp2
  go_ret
  exact ⟨rfl, Below.refl _ _⟩
 have qz0 : ¬ (1048576 : Int) < (x0.length : Int) := by omega
 obtain ⟨r, rB, rL, hD⟩ := Draw.draw_ex x0 hb zq3
 have HD := zA hD
 have RB := zA (show ∀ x ∈ r, 0 ≤ x ∧ x ≤ 255 from rB)
 have S0 := zA (show HelpB.smallB r from rL)
 have CS := zA (dec_case r rB)
 obtain ⟨R, hR⟩ : ∃ R, (dec r).1 = R := ⟨_, rfl⟩
 obtain ⟨C, hC⟩ : ∃ C, (dec r).2 = C := ⟨_, rfl⟩
 have CS := zA (show (C = 0 ∧ enc R = r ∧ build R.1 R.2.1 = (R, 0) ∧ Bytes R.2.1 ∧ HelpSeg.smallSeg R) ∨ C = 5 from by rw [← hR, ← hC]; exact CS.out)
 have HR := zA hR
 have HC := zA hC
 clear hD rB q0 hR hC hb
 go_enter Try.func11, Try.ntmps11
 go_wp2_with fail
 go_at_call 58
 refine (HD.out A0 c0 _ R0.out C0.out).mono ?_
 rintro e w1 ⟨A1, c1, rfl, hc1, hr1, g1⟩
 have hm1 := hr1.2.1
 have K1 := zA (show HelpB.tB.K w1 r (.slice A1 r.length c1) from ⟨A1, c1, rfl, hc1, hr1⟩)
 have G1 := zA (show Grew w w1 from g1)
 have HC1 := zA hc1
 have HR1 := zA hr1
 clear hc1 hr1 g1
 go_wp2_with fail
 go_at_call 44
 refine (SegS.decS_calls A1 c1 r _ HR1.out HC1.out RB.out rL).mono ?_
 rintro e w2 ⟨A1v, c1v, A2v, c2v, A3v, c3v, rfl, _, gg⟩
 have G2 := zA (show Grew w w2 from grew_trans G1.out gg)
 have K12 := zA (HelpB.tB.K_below gg K1.out)
 rw [HC.out, HR.out]
 clear gg K1
 go_wp2_with fail
 obtain ⟨w3, hW_⟩ : ∃ w_, w_ = w2.alloc (.cells #[.int .i64 (R.1), .slice A1v (R.2.1).length c1v, .slice A2v (R.2.2.1).length c2v, .slice A3v (R.2.2.2).length c3v] 50 (0, 0)) := ⟨_, rfl⟩
 obtain ⟨gv, hgb⟩ : ∃ g_, g_ = w2.heap.size := ⟨_, rfl⟩
 rw [← hW_, ← hgb]
 have gg : Grew w2 w3 := by rw [hW_]; exact below_alloc (Below.refl _ _) _
 have G3 := zA (show Grew w w3 from grew_trans G2.out gg)
 have K13 := zA (HelpB.tB.K_below gg K12.out)
 clear hW_ hgb gg K12
 go_at_call 58
 refine (HD.out A0 c0 _ (Kd.C_below R0.out G3.out) C0.out).mono ?_
 rintro e w4 ⟨A4, c4, rfl, hc4, hr4, g4⟩
 have hm4 := hr4.2.1
 have K4 := zA (show HelpB.tB.K w4 r (.slice A4 r.length c4) from ⟨A4, c4, rfl, hc4, hr4⟩)
 have G4 := zA (show Grew w w4 from grew_trans G3.out g4)
 have K14 := zA (HelpB.tB.K_below g4 K13.out)
 clear hc4 hr4 g4 K13
 go_wp2_with fail
 go_at_call 45
 refine (Decode.implC r _ _ K4.out S0.out RB.out).mono ?_
 rintro e w5 ⟨v, rfl, hm, gg⟩
 have G5 := zA (show Grew w w5 from grew_trans G4.out gg)
 have K15 := zA (HelpB.tB.K_below gg K14.out)
 rw [show Decode.codeD r = C from HC.out]
 rw [show Decode.ansD r = R from HR.out] at hm
 have KS := zA (HelpSeg.tSeg.K_of_M hm)
 clear hm gg K14 K4
 obtain ⟨B1, d1, B2, d2, B3, d3, es_⟩ := HelpSeg.form KS.out
 subst es_
 rcases CS.out with ⟨hC0, hen, hbu, hby, hsm⟩ | hC5
 case inr =>
  subst hC5
  go_wp2
  go_ret
  exact ⟨rfl, below_alloc G5.out _⟩
 subst hC0
 have HEN := zA hen
 have HBU := zA hbu
 have HBY := zA hby
 have HSM := zA hsm
 clear hen hbu hby hsm CS
 go_wp2_with fail
 obtain ⟨w6, hW_⟩ : ∃ w_, w_ = w5.alloc (.cells #[.int .i64 (R.1), .slice B1 (R.2.1).length d1, .slice B2 (R.2.2.1).length d2, .slice B3 (R.2.2.2).length d3] 50 (0, 0)) := ⟨_, rfl⟩
 obtain ⟨gs, hgb⟩ : ∃ g_, g_ = w5.heap.size := ⟨_, rfl⟩
 try rw [← hW_, ← hgb]
 have BK := zA (show w6.heap[gs]? = some (.cells #[.int .i64 (R.1), .slice B1 (R.2.1).length d1, .slice B2 (R.2.2.1).length d2, .slice B3 (R.2.2.2).length d3] 50 (0, 0)) from by rw [hW_, hgb]; exact blk_new w5 _)
 have gg : Grew w5 w6 := by rw [hW_]; exact below_alloc (Below.refl _ _) _
 have G6 := zA (show Grew w w6 from grew_trans G5.out gg)
 have K16 := zA (HelpB.tB.K_below gg K15.out)
 have KS6 := zA (HelpSeg.tSeg.K_below gg KS.out)
 clear gg K15 KS hW_ hgb
 obtain ⟨⟨q0, qf0⟩, ⟨q1, qf1⟩, ⟨q2, qf2⟩, ⟨q3, qf3⟩⟩ := cells4 BK.out
 go_wp2_with fail
 go_at_call 49
 refine (Encode.implC R _ _ KS6.out HSM.out HBY.out).mono ?_
 rintro e w7 ⟨v, rfl, hm, gg⟩
 rw [HEN.out] at hm
 obtain ⟨A7, c7, rfl, hc7, hr7⟩ := HelpB.tB.K_of_M hm
 have hm7 := hr7.2.1
 have K7 := zA (show HelpB.tB.K w7 r (.slice A7 r.length c7) from ⟨A7, c7, rfl, hc7, hr7⟩)
 have G7 := zA (show Grew w w7 from grew_trans G6.out gg)
 have K17 := zA (HelpB.tB.K_below gg K16.out)
 have KS7 := zA (HelpSeg.tSeg.K_below gg KS6.out)
 have BK7 := zA (blk_below BK.out gg)
 clear hm hc7 hr7 gg K16 KS6 BK q0 qf0 q1 qf1 q2 qf2 q3 qf3
 go_wp2_with fail
 go_at_call 59
 refine (same_bytes A7 A1 c7 c1 r _ K7.out K17.out S0.out).mono ?_
 rintro e w8 ⟨rfl, gg⟩
 have G8 := zA (show Grew w w8 from grew_trans G7.out gg)
 have KS8 := zA (HelpSeg.tSeg.K_below gg KS7.out)
 have BK8 := zA (blk_below BK7.out gg)
 clear gg KS7 BK7
 obtain ⟨⟨q0, qf0⟩, ⟨q1, qf1⟩, ⟨q2, qf2⟩, ⟨q3, qf3⟩⟩ := cells4 BK8.out
 go_wp2_with fail
 go_at_call 40
 refine (Build.implC R.1 R.2.1 _ _ (seg_parts KS8.out).1 (small_parts' HSM.out).1 HBY.out).mono ?_
 rintro e w9 ⟨v, rfl, hm, gg⟩
 have hu := HBU.out
 rw [show Build.code R.1 R.2.1 = 0 from congrArg Prod.snd hu]
 rw [show Build.ans R.1 R.2.1 = R from congrArg Prod.fst hu] at hm
 have KT := zA (HelpSeg.tSeg.K_of_M hm)
 have G9 := zA (show Grew w w9 from grew_trans G8.out gg)
 have KS9 := zA (HelpSeg.tSeg.K_below gg KS8.out)
 have BK9 := zA (blk_below BK8.out gg)
 clear hm gg hu KS8 BK8 q0 qf0 q1 qf1 q2 qf2 q3 qf3
 obtain ⟨E1, f1, E2, f2, E3, f3, es_⟩ := HelpSeg.form KT.out
 subst es_
 obtain ⟨⟨q0, qf0⟩, ⟨q1, qf1⟩, ⟨q2, qf2⟩, ⟨q3, qf3⟩⟩ := cells4 BK9.out
 obtain ⟨⟨p0, pf0⟩, ⟨p1, pf1⟩, ⟨p2, pf2⟩, ⟨p3, pf3⟩⟩ := cells4 (blk_alloc BK9.out (.cells #[.int .i64 (R.1), .slice E1 (R.2.1).length f1, .slice E2 (R.2.2.1).length f2, .slice E3 (R.2.2.2).length f3] 50 (0, 0)))
 go_wp2_with fail
 obtain ⟨w10, hW_⟩ : ∃ w_, w_ = w9.alloc (.cells #[.int .i64 (R.1), .slice E1 (R.2.1).length f1, .slice E2 (R.2.2.1).length f2, .slice E3 (R.2.2.2).length f3] 50 (0, 0)) := ⟨_, rfl⟩
 obtain ⟨gt, hgb⟩ : ∃ g_, g_ = w9.heap.size := ⟨_, rfl⟩
 try rw [← hW_, ← hgb]
 have gg : Grew w9 w10 := by rw [hW_]; exact below_alloc (Below.refl _ _) _
 have G10 := zA (show Grew w w10 from grew_trans G9.out gg)
 have KS10 := zA (HelpSeg.tSeg.K_below gg KS9.out)
 have KT10 := zA (HelpSeg.tSeg.K_below gg KT.out)
 go_at_call 60
 refine (same_seg R _ _ _ KT10.out KS10.out HSM.out).mono ?_
 rintro e w11 ⟨rfl, gg⟩
 have G11 := zA (show Grew w w11 from grew_trans G10.out gg)
 clear gg
 go_wp2
 go_ret
 exact ⟨rfl, G11.out⟩
end Go.Proofs.Ytmgmdnmfalepkaa.LawCod
