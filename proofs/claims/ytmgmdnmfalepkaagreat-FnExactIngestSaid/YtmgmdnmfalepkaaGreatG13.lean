/- Parts of the proof (see the row's own text): StoK, Ldec, PDecS, DecA. -/
import Derived.Test.YtmgmdnmfalepkaaGreatG11
import Derived.Test.YtmgmdnmfalepkaaGreatG5
import Derived.Test.YtmgmdnmfalepkaaGreatG12
import Derived.Test.YtmgmdnmfalepkaaGreatG4
import Derived.Test.YtmgmdnmfalepkaaGreatG7
import Derived.Test.YtmgmdnmfalepkaaGreatG8
import Derived.Test.YtmgmdnmfalepkaaGreatG10
import Derived.Lib.Bytes
import Derived.Deep.RegionLaw
import Derived.Deep.RegionHeld3
namespace Go.Proofs.YtmgmdnmfalepkaaGreat.Sto
open Go.RowKit Go.Proofs.YtmgmdnmfalepkaaGreatW.PrintWords Go.Proofs.YtmgmdnmfalepkaaGreatW.PrintMore Go.Proofs.YtmgmdnmfalepkaaGreat.Kit Go.Proofs.YtmgmdnmfalepkaaGreat.PKit Go.Proofs.YtmgmdnmfalepkaaGreat.Ty Go.Proofs.YtmgmdnmfalepkaaGreat.PSeg Go.Proofs.YtmgmdnmfalepkaaGreat.PEnc Go.Proofs.YtmgmdnmfalepkaaGreat.PDec Go.Proofs.YtmgmdnmfalepkaaGreat.PSta Go.Proofs.YtmgmdnmfalepkaaGreat.HelpBB Go.Proofs.YtmgmdnmfalepkaaGreat.HelpSeg
open Go.Proofs.YtmgmdnmfalepkaaGreat.Build hiding code ans
set_option linter.unusedVariables false
set_option linter.unusedSimpArgs false
theorem cells2 {w : World} {g : Nat} {t : TypeId} {a0 a1 : Value} (h : w.heap[g]? = some (.cells #[a0, a1] t (0, 0))) : (w.cell? ⟨g, 0, none⟩ = some a0 ∧ w.frozen? ⟨g, 0, none⟩ = false) ∧ (w.cell? ⟨g, 1, none⟩ = some a1 ∧ w.frozen? ⟨g, 1, none⟩ = false) := ⟨⟨(blk_cell h 0).trans rfl, blk_frozen h 0⟩, ⟨(blk_cell h 1).trans rfl, blk_frozen h 1⟩⟩
theorem cells4 {w : World} {g : Nat} {t : TypeId} {a0 a1 a2 a3 : Value} (h : w.heap[g]? = some (.cells #[a0, a1, a2, a3] t (0, 0))) : (w.cell? ⟨g, 0, none⟩ = some a0 ∧ w.frozen? ⟨g, 0, none⟩ = false) ∧ (w.cell? ⟨g, 1, none⟩ = some a1 ∧ w.frozen? ⟨g, 1, none⟩ = false) ∧ (w.cell? ⟨g, 2, none⟩ = some a2 ∧ w.frozen? ⟨g, 2, none⟩ = false) ∧ (w.cell? ⟨g, 3, none⟩ = some a3 ∧ w.frozen? ⟨g, 3, none⟩ = false) := ⟨⟨(blk_cell h 0).trans rfl, blk_frozen h 0⟩, ⟨(blk_cell h 1).trans rfl, blk_frozen h 1⟩, ⟨(blk_cell h 2).trans rfl, blk_frozen h 2⟩, ⟨(blk_cell h 3).trans rfl, blk_frozen h 3⟩⟩
def zS : SegT := (0, [], [], [])
def kSeg : Kd SegT := Kd.pair (Kd.int .i64) (Kd.pair (Kd.slice 25 kB) (Kd.pair (Kd.slice 3 (Kd.int .i64)) (Kd.slice 56 HelpII.kI)))
theorem kSeg_open {w : World} {x : SegT} {cs : List Value} (h : kSeg.K w x cs) : ∃ (A1 : Option Addr) (c1 : Nat) (A2 : Option Addr) (c2 : Nat) (A3 : Option Addr) (c3 : Nat), cs = [.int .i64 x.1, .slice A1 x.2.1.length c1, .slice A2 x.2.2.1.length c2, .slice A3 x.2.2.2.length c3] ∧ tSeg.K w x (.agg #[.int .i64 x.1, .slice A1 x.2.1.length c1, .slice A2 x.2.2.1.length c2, .slice A3 x.2.2.2.length c3]) := by
  obtain ⟨_, _, rfl, rfl, ⟨_, _, rfl, ⟨A1, c1, rfl, l1, g1⟩, ⟨_, _, rfl, ⟨A2, c2, rfl, l2, g2⟩, ⟨A3, c3, rfl, l3, g3⟩⟩⟩⟩ := h
  exact ⟨A1, c1, A2, c2, A3, c3, rfl, [_, _, _, _], rfl, _, _, rfl, rfl, _, _, rfl, ⟨A1, c1, rfl, l1, g1⟩, _, _, rfl, ⟨A2, c2, rfl, l2, g2⟩, _, rfl, ⟨A3, c3, rfl, l3, g3⟩⟩
theorem kSeg_mk {w : World} {base : Nat} {ok : Nat → Prop} {x : SegT} {v : Value} (h : tSeg.M w base ok x v) : ∃ (A1 : Option Addr) (c1 : Nat) (A2 : Option Addr) (c2 : Nat) (A3 : Option Addr) (c3 : Nat), v = .agg #[.int .i64 x.1, .slice A1 x.2.1.length c1, .slice A2 x.2.2.1.length c2, .slice A3 x.2.2.2.length c3] ∧ kSeg.M w base ok x [.int .i64 x.1, .slice A1 x.2.1.length c1, .slice A2 x.2.2.1.length c2, .slice A3 x.2.2.2.length c3] := by
  obtain ⟨l, rfl, v0, r0, o1, o2, rfl, h1, h2, rfl, v1, r1, o3, o4, rfl, h3, h4, m1, v2, r2, o5, o6, rfl, h5, h6, m2, v3, rfl, m3⟩ := h
  obtain ⟨A1, c1, rfl⟩ := Kd.S_slice m1
  obtain ⟨A2, c2, rfl⟩ := Kd.R_slice m2
  obtain ⟨A3, c3, rfl⟩ := Kd.S_slice m3
  exact ⟨A1, c1, A2, c2, A3, c3, rfl, [_], [_, _, _], rfl, rfl, [_], [_, _], rfl, ⟨_, rfl, Kd.R_mono (Kd.S_R m1) (fun k hk => (h2 k (h3 k hk)).1)⟩, [_], [_], rfl, ⟨_, rfl, Kd.R_mono m2 (fun k hk => (h2 k (h4 k (h5 k hk)).1).1)⟩, ⟨_, rfl, Kd.R_mono (Kd.S_R m3) (fun k hk => (h2 k (h4 k (h6 k hk).1).1).1)⟩⟩
theorem at_seg {w : World} {A : Option Addr} {n : Nat} {xs : List SegT} (h : Kd.C kSeg w A n xs) (i : Nat) (hi : i < n) : ∃ (ad : Addr) (A1 : Option Addr) (c1 : Nat) (A2 : Option Addr) (c2 : Nat) (A3 : Option Addr) (c3 : Nat), A = some ad ∧ (w.cell? (ad.add (i * 4)) = some (.int .i64 (xs.getD i zS).1) ∧
    w.cell? ⟨(ad.add (i * 4)).block, (ad.add (i * 4)).off + 1, none⟩ = some (.slice A1 (xs.getD i zS).2.1.length c1) ∧
    w.cell? ⟨(ad.add (i * 4)).block, (ad.add (i * 4)).off + 2, none⟩ = some (.slice A2 (xs.getD i zS).2.2.1.length c2) ∧
    w.cell? ⟨(ad.add (i * 4)).block, (ad.add (i * 4)).off + 3, none⟩ = some (.slice A3 (xs.getD i zS).2.2.2.length c3)) ∧ tSeg.K w (xs.getD i zS) (.agg #[.int .i64 (xs.getD i zS).1, .slice A1 (xs.getD i zS).2.1.length c1, .slice A2 (xs.getD i zS).2.2.1.length c2, .slice A3 (xs.getD i zS).2.2.2.length c3]) := by
  obtain ⟨ad, c, e, _, hK, hc0⟩ := Kd.C_get h zS (i : Int) (by omega) (by omega)
  rw [Int.toNat_natCast] at hK hc0
  have hc : ∀ j u, c[j]? = some u → w.cell? (ad.add (i * 4 + j)) = some u := hc0
  obtain ⟨A1, c1, A2, c2, A3, c3, rfl, hT⟩ := kSeg_open hK
  exact ⟨ad, A1, c1, A2, c2, A3, c3, e, ⟨hc 0 _ rfl, by rw [← add_field _ _ 1 (by omega)]; exact hc 1 _ rfl, by rw [← add_field _ _ 2 (by omega)]; exact hc 2 _ rfl, by rw [← add_field _ _ 3 (by omega)]; exact hc 3 _ rfl⟩, hT⟩
theorem cells_later {w W : World} {p : Addr} {u0 u1 u2 u3 : Value} (hb : Below w.heap.size w W) (h : w.cell? p = some u0 ∧ w.cell? ⟨p.block, p.off + 1, none⟩ = some u1 ∧ w.cell? ⟨p.block, p.off + 2, none⟩ = some u2 ∧ w.cell? ⟨p.block, p.off + 3, none⟩ = some u3) : W.cell? p = some u0 ∧ W.cell? ⟨p.block, p.off + 1, none⟩ = some u1 ∧ W.cell? ⟨p.block, p.off + 2, none⟩ = some u2 ∧ W.cell? ⟨p.block, p.off + 3, none⟩ = some u3 :=
  have hl := World.block_lt_of_cell? w _ h.1
  ⟨(hb.cell hl).trans h.1, (hb.cell (p := ⟨p.block, p.off + 1, none⟩) hl).trans h.2.1, (hb.cell (p := ⟨p.block, p.off + 2, none⟩) hl).trans h.2.2.1, (hb.cell (p := ⟨p.block, p.off + 3, none⟩) hl).trans h.2.2.2⟩
theorem seg_snoc (ss : List SegT) (i : Nat) (hi : i < ss.length) : ss.take (i + 1) = ss.take i ++ [ss.getD i zS] := by
  rw [List.take_succ_eq_append_getElem hi]; simp [List.getD, List.getElem?_eq_getElem hi]
theorem nlin_one (s : SegT) : nlin [s] = s.2.1.length := by simp [nlin]
theorem tots_one (s : SegT) : tots [s] = totalB s.2.1 := by simp [tots]
theorem nlin_take (ss : List SegT) (i : Nat) : nlin (ss.take i) ≤ nlin ss := by
  have h := nlin_append (ss.take i) (ss.drop i)
  rw [List.take_append_drop] at h
  omega
theorem tots_take (ss : List SegT) (i : Nat) : tots (ss.take i) ≤ tots ss := by
  have h := tots_append (ss.take i) (ss.drop i)
  rw [List.take_append_drop] at h
  omega
def Good (s : SegT) : Prop := s = seg s.1 s.2.1 ∧ fits s.1 s.2.1 = true ∧ Bytes s.2.1
theorem infoSeg : (Tryz.prog.info? 59).map (fun i => (i.zero, i.size, i.bytes)) = some (some (.agg #[.int .i64 0, .slice none 0 0, .slice none 0 0, .slice none 0 0]), 4, 80) := by kernel_rfl
end Go.Proofs.YtmgmdnmfalepkaaGreat.Sto

namespace Go.Proofs.YtmgmdnmfalepkaaGreat.L
open Go.RowKit Go.Proofs.YtmgmdnmfalepkaaGreatW.PrintWords Go.Proofs.YtmgmdnmfalepkaaGreatW.PrintLast Go.Proofs.YtmgmdnmfalepkaaGreatW.PrintMore
attribute [local go_sem] max2_int min2_int max_two min_two max_three min_three max_four min_four
set_option linter.unusedVariables false
set_option linter.unusedSimpArgs false
def spec_l4read.l0 : Nat → List Int → Int → Int → Int → Int → Option (Int × Int)
 | 0, _, _, _, _, _ => none
 | k + 1, x0, x1, x6, x7, x8 => if x8 < 4 then (if (wrap64 (x1 + x8)) ≥ (x0.length : Int) then (some (0, (-1))) else (if 0 ≤ (wrap64 (x1 + x8)) then (if (wrap64 (x1 + x8)) < (x0.length : Int) then (if (wrap64 (rd x0 (wrap64 (x1 + x8)))) < 128 then (some (wrap64 (x6 + (wrap64 ((Int.tmod (wrap64 (rd x0 (wrap64 (x1 + x8)))) 128) * x7))), wrap64 ((wrap64 (x1 + x8)) + 1))) else (spec_l4read.l0 k x0 x1 (wrap64 (x6 + (wrap64 ((Int.tmod (wrap64 (rd x0 (wrap64 (x1 + x8)))) 128) * x7)))) (wrap64 (x7 * 128)) (wrap64 (x8 + 1)))) else (none)) else (none))) else (some (0, (-1)))
def spec_l4read.f (k : Nat) (l0 : List Int) (a1 : Int) : Option (Int × Int) := spec_l4read.l0 k l0 a1 0 1 0
theorem spec_l4read.mono_l : ∀ k, (∀ y0 y1 y2 y3 y4, LeO (spec_l4read.l0 k y0 y1 y2 y3 y4) (spec_l4read.l0 (k + 1) y0 y1 y2 y3 y4))
  | 0 => fun _ _ _ _ _ r h => by simp [spec_l4read.l0] at h
  | k + 1 => by
    have ih0 := spec_l4read.mono_l k
    · intro y0 y1 y2 y3 y4
      unfold spec_l4read.l0
      repeat' first
      | (with_reducible exact ih0 _ _ _ _ _)
      | (with_reducible exact LeO.refl _)
      | (with_reducible exact LeO.none _)
      | (with_reducible refine LeO.ite ?_ ?_)
      | (with_reducible refine LeO.bind ?_ (fun _ => ?_))
      | exact ih0 _ _ _ _ _
      | exact LeO.none _
      | refine LeO.ite ?_ ?_
      | refine LeO.bind ?_ (fun _ => ?_)
theorem spec_l4read.mono : ∀ a0 a1 k, LeO (spec_l4read.f k a0 a1) (spec_l4read.f (k + 1) a0 a1) := by
 intro a0 a1 k
 have ih0 := spec_l4read.mono_l k
 unfold spec_l4read.f
 repeat' first
   | (with_reducible exact ih0 _ _ _ _ _)
   | (with_reducible exact LeO.refl _)
   | (with_reducible exact LeO.none _)
   | (with_reducible refine LeO.ite ?_ ?_)
   | (with_reducible refine LeO.bind ?_ (fun _ => ?_))
   | exact ih0 _ _ _ _ _
   | exact LeO.none _
   | refine LeO.ite ?_ ?_
   | refine LeO.bind ?_ (fun _ => ?_)
set_option maxHeartbeats 8000000 in
set_option maxRecDepth 100000 in
theorem spec_l4read.calls (k : Nat) (A0 : Option Addr) (c0 : Nat) (l0 : List Int) (a1 : Int) (r1 : Int) (r2 : Int) (w : World) (hr0 : Kd.C (Kd.int .u8) w A0 l0.length l0) (hc0 : l0.length ≤ c0) (h : spec_l4read.f k l0 a1 = some (r1, r2)) :
    Calls Tryz.prog 91 #[.slice A0 l0.length c0, .int .i64 a1] w fun e w' => e = .returned (.tuple #[.int .i64 r1, .int .i64 r2]) ∧ Drawn0 w w' := by
  have HR0 := Aside0.mk hr0
  have HC0 := Aside0.mk hc0
  clear hr0 hc0
  have H : (spec_l4read.l0 k l0 a1 0 1 0) = some (r1, r2) := h
  clear h
  have H' := Aside0.mk H
  clear H
  go_enter Tryz.func91, Tryz.ntmps91
  go_wp2
  go_loopg [6, 7, 8] k (fun kq v6 v7 v8 w' => ∃ (x6_1 : Int) (x7_1 : Int) (x8_1 : Int), v6 = .int .i64 x6_1 ∧ v7 = .int .i64 x7_1 ∧ v8 = .int .i64 x8_1 ∧ Aside0 (spec_l4read.l0 kq l0 a1 x6_1 x7_1 x8_1 = some (r1, r2)) ∧ Aside0 (kq ≤ k) ∧ Drawn0 w w')
  case atStart => exact ⟨(0), (1), (0), (by first | rfl | (simp; done) | (simp [*]; done)), (by first | rfl | (simp; done) | (simp [*]; done)), (by first | rfl | (simp; done) | (simp [*]; done)), H', ⟨Nat.le_refl _⟩, by repeat (first | exact Drawn0.refl _ | apply Drawn0.step)⟩
  case round =>
    clear H'
    try clear p2
    obtain ⟨x6_1, x7_1, x8_1, rfl, rfl, rfl, HA, HK1, ⟨m1, rfl⟩⟩ := hrel
    cases gk with
    | zero => exact absurd HA.out (by simp [spec_l4read.l0])
    | succ k1 =>
      have H := HA.out
      clear HA
      simp only [spec_l4read.l0] at H
      by_cases c3 : x8_1 < 4
      · rw [if_pos c3] at H
        have c3b0 : decide (x8_1 < 4) = true := decide_eq_true c3
        clear c3
        by_cases c4 : (wrap64 (a1 + x8_1)) ≥ (l0.length : Int)
        · rw [if_pos c4] at H
          have c4b0 : decide ((l0.length : Int) ≤ (wrap64 (a1 + x8_1))) = true := decide_eq_true c4
          clear c4
          simp only [Option.some.injEq, Prod.mk.injEq] at H
          obtain ⟨rfl, rfl⟩ := H
          go_wp2
          go_ret2
          exact ⟨by first | rfl | (simp; done) | (simp [*]; done), by repeat (first | exact Drawn0.refl _ | apply Drawn0.step)⟩
        · rw [if_neg c4] at H
          have c4b0 : decide ((l0.length : Int) ≤ (wrap64 (a1 + x8_1))) = false := decide_eq_false c4
          clear c4
          obtain ⟨ji5, hji5⟩ : ∃ j_ : Int, (wrap64 (a1 + x8_1)) = j_ := ⟨_, rfl⟩
          replace H : (if 0 ≤ (ji5) then (if (ji5) < (l0.length : Int) then (if (wrap64 (rd l0 (ji5))) < 128 then (some (wrap64 (x6_1 + (wrap64 ((Int.tmod (wrap64 (rd l0 (ji5))) 128) * x7_1))), wrap64 ((ji5) + 1))) else (spec_l4read.l0 k1 l0 a1 (wrap64 (x6_1 + (wrap64 ((Int.tmod (wrap64 (rd l0 (ji5))) 128) * x7_1)))) (wrap64 (x7_1 * 128)) (wrap64 (x8_1 + 1)))) else (none)) else (none)) = some (r1, r2) := by first | (rw [hji5] at H; exact H) | (simp only [hji5] at H ⊢; exact H)
          (try rw [hji5] at c4b0)
          have hji5w : (IntKind.i64.wrap (a1 + x8_1)) = ji5 := (i64_w _).trans hji5
          by_cases c6 : 0 ≤ (ji5)
          · rw [if_pos c6] at H
            have c6b0 : decide (0 ≤ (ji5)) = true := decide_eq_true c6
            clear c6
            by_cases c7 : (ji5) < (l0.length : Int)
            · rw [if_pos c7] at H
              have c7b0 : decide ((ji5) < (l0.length : Int)) = true := decide_eq_true c7
              clear c7
              by_cases c8 : (wrap64 (rd l0 (ji5))) < 128
              · rw [if_pos c8] at H
                have c8b0 : decide ((wrap64 (rd l0 (ji5))) < 128) = true := decide_eq_true c8
                clear c8
                simp only [Option.some.injEq, Prod.mk.injEq] at H
                obtain ⟨rfl, rfl⟩ := H
                have p343 : 0 ≤ ((ji5) : Int) := of_decide_eq_true (by first | (with_reducible assumption) | assumption)
                have q343 : (ji5) < (l0.length : Int) := of_decide_eq_true (by first | (with_reducible assumption) | assumption)
                obtain ⟨ad343, e343, hx343_0⟩ := Kd.at_int HR0.out (ji5) p343 q343
                cases e343
                replace p343 := eq_true p343
                replace q343 := eq_true q343
                go_wp2
                go_ret2
                exact ⟨by first | rfl | (simp; done) | (simp only [← hji5] <;> (first | rfl | simp)) | (simp [*]; done), by repeat (first | exact Drawn0.refl _ | apply Drawn0.step)⟩
              · rw [if_neg c8] at H
                have c8b0 : decide ((wrap64 (rd l0 (ji5))) < 128) = false := decide_eq_false c8
                clear c8
                have H' := Aside0.mk H
                clear H
                have p343 : 0 ≤ ((ji5) : Int) := of_decide_eq_true (by first | (with_reducible assumption) | assumption)
                have q343 : (ji5) < (l0.length : Int) := of_decide_eq_true (by first | (with_reducible assumption) | assumption)
                obtain ⟨ad343, e343, hx343_0⟩ := Kd.at_int HR0.out (ji5) p343 q343
                cases e343
                replace p343 := eq_true p343
                replace q343 := eq_true q343
                go_wp2
                go_roundg k1
                case measure => have := HK1.out; omega
                case rel => exact ⟨(wrap64 (x6_1 + (wrap64 ((Int.tmod (wrap64 (rd l0 (ji5))) 128) * x7_1)))), (wrap64 (x7_1 * 128)), (wrap64 (x8_1 + 1)), (by first | rfl | (simp; done) | (simp only [← hji5] <;> (first | rfl | simp)) | (simp [*]; done)), (by first | rfl | (simp; done) | (simp [*]; done)), (by first | rfl | (simp; done) | (simp [*]; done)), H', ⟨by have := HK1.out; omega⟩, by repeat (first | exact Drawn0.refl _ | apply Drawn0.step)⟩
            · rw [if_neg c7] at H
              exact absurd H (by simp)
          · rw [if_neg c6] at H
            exact absurd H (by simp)
      · rw [if_neg c3] at H
        have c3b0 : decide (x8_1 < 4) = false := decide_eq_false c3
        clear c3
        simp only [Option.some.injEq, Prod.mk.injEq] at H
        obtain ⟨rfl, rfl⟩ := H
        go_wp2
        go_ret2
        exact ⟨by first | rfl | (simp; done) | (simp [*]; done), by repeat (first | exact Drawn0.refl _ | apply Drawn0.step)⟩
mutual
def spec_l4lines.j0 : Nat → List Int → Int → Int → Int → Bool → Option (Int × (List (List Int)) × Bool)
 | 0, _, _, _, _, _ => none
 | k + 1, x0, x5, x7, x8, x35 => if x35 = true then (some (0, ([] : List (List Int)), false)) else (spec_l4lines.l0 k x0 x5 x7 x8 ([] : List (List Int)) 0)
def spec_l4lines.l0 : Nat → List Int → Int → Int → Int → List (List Int) → Int → Option (Int × (List (List Int)) × Bool)
 | 0, _, _, _, _, _, _ => none
 | k + 1, x0, x5, x7, x8, x9, x10 => if x10 < x7 then ((spec_l4read.f k x0 x8).bind fun bt348 => (if bt348.2 < 0 then (some (0, ([] : List (List Int)), false)) else (if bt348.1 > (wrap64 ((x0.length : Int) - bt348.2)) then (some (0, ([] : List (List Int)), false)) else (if 0 ≤ bt348.2 then (if bt348.2 ≤ (wrap64 (bt348.2 + bt348.1)) then (if (wrap64 (bt348.2 + bt348.1)) ≤ (x0.length : Int) then (if ([] : List Int).length + ((x0.take ((wrap64 (bt348.2 + bt348.1)) : Int).toNat).drop (bt348.2 : Int).toNat).length < 140737488355328 then (if x9.length < 5864062014805 then (spec_l4lines.l0 k x0 x5 x7 (wrap64 (bt348.2 + bt348.1)) (x9 ++ [(([] : List Int) ++ ((x0.take ((wrap64 (bt348.2 + bt348.1)) : Int).toNat).drop (bt348.2 : Int).toNat))]) (wrap64 (x10 + 1))) else (none)) else (none)) else (none)) else (none)) else (none))))) else (some (x5, x9, true))
end
def spec_l4lines.f (k : Nat) (l0 : List Int) : Option (Int × (List (List Int)) × Bool) := if (l0.length : Int) < 2 then (some (0, ([] : List (List Int)), false)) else ((spec_l4read.f k l0 2).bind fun bt344 => (if bt344.2 < 0 then (some (0, ([] : List (List Int)), false)) else ((spec_l4read.f k l0 bt344.2).bind fun bt346 => (if bt346.2 < 0 then (spec_l4lines.j0 k l0 bt344.1 bt346.1 bt346.2 true) else (spec_l4lines.j0 k l0 bt344.1 bt346.1 bt346.2 (decide (bt346.1 > 1000)))))))
theorem spec_l4lines.mono_l : ∀ k, (∀ y0 y1 y2 y3 y4, LeO (spec_l4lines.j0 k y0 y1 y2 y3 y4) (spec_l4lines.j0 (k + 1) y0 y1 y2 y3 y4)) ∧ (∀ y0 y1 y2 y3 y4 y5, LeO (spec_l4lines.l0 k y0 y1 y2 y3 y4 y5) (spec_l4lines.l0 (k + 1) y0 y1 y2 y3 y4 y5))
  | 0 => ⟨fun _ _ _ _ _ r h => by simp [spec_l4lines.j0] at h, fun _ _ _ _ _ _ r h => by simp [spec_l4lines.l0] at h⟩
  | k + 1 => by
    obtain ⟨ih0, ih1⟩ := spec_l4lines.mono_l k
    refine ⟨?_, ?_⟩
    · intro y0 y1 y2 y3 y4
      unfold spec_l4lines.j0
      repeat' first
      | (with_reducible exact ih0 _ _ _ _ _)
      | (with_reducible exact ih1 _ _ _ _ _ _)
      | (with_reducible exact spec_l4read.mono _ _ _)
      | (with_reducible exact LeO.refl _)
      | (with_reducible exact LeO.none _)
      | (with_reducible refine LeO.ite ?_ ?_)
      | (with_reducible refine LeO.bind ?_ (fun _ => ?_))
      | exact ih0 _ _ _ _ _
      | exact ih1 _ _ _ _ _ _
      | exact spec_l4read.mono _ _ _
      | exact LeO.none _
      | refine LeO.ite ?_ ?_
      | refine LeO.bind ?_ (fun _ => ?_)
    · intro y0 y1 y2 y3 y4 y5
      unfold spec_l4lines.l0
      repeat' first
      | (with_reducible exact ih0 _ _ _ _ _)
      | (with_reducible exact ih1 _ _ _ _ _ _)
      | (with_reducible exact spec_l4read.mono _ _ _)
      | (with_reducible exact LeO.refl _)
      | (with_reducible exact LeO.none _)
      | (with_reducible refine LeO.ite ?_ ?_)
      | (with_reducible refine LeO.bind ?_ (fun _ => ?_))
      | exact ih0 _ _ _ _ _
      | exact ih1 _ _ _ _ _ _
      | exact spec_l4read.mono _ _ _
      | exact LeO.none _
      | refine LeO.ite ?_ ?_
      | refine LeO.bind ?_ (fun _ => ?_)
theorem spec_l4lines.mono : ∀ a0 k, LeO (spec_l4lines.f k a0) (spec_l4lines.f (k + 1) a0) := by
 intro a0 k
 obtain ⟨ih0, ih1⟩ := spec_l4lines.mono_l k
 unfold spec_l4lines.f
 repeat' first
   | (with_reducible exact ih0 _ _ _ _ _)
   | (with_reducible exact ih1 _ _ _ _ _ _)
   | (with_reducible exact spec_l4read.mono _ _ _)
   | (with_reducible exact LeO.refl _)
   | (with_reducible exact LeO.none _)
   | (with_reducible refine LeO.ite ?_ ?_)
   | (with_reducible refine LeO.bind ?_ (fun _ => ?_))
   | exact ih0 _ _ _ _ _
   | exact ih1 _ _ _ _ _ _
   | exact spec_l4read.mono _ _ _
   | exact LeO.none _
   | refine LeO.ite ?_ ?_
   | refine LeO.bind ?_ (fun _ => ?_)
set_option maxHeartbeats 8000000 in
set_option maxRecDepth 100000 in
theorem spec_l4lines.calls (k : Nat) (A0 : Option Addr) (c0 : Nat) (l0 : List Int) (r1 : Int) (r2 : List (List Int)) (r3 : Bool) (w : World) (hr0 : Kd.C (Kd.int .u8) w A0 l0.length l0) (hc0 : l0.length ≤ c0) (h : spec_l4lines.f k l0 = some (r1, r2, r3)) :
    Calls Tryz.prog 67 #[.slice A0 l0.length c0] w fun e w' => ∃ v1_ : Value, e = .returned (.tuple #[.int .i64 r1, v1_, .bool r3]) ∧ Kd.S (Kd.slice 5 (Kd.int .u8)) 25 w' w.heap.size (fun _ => True) v1_ r2 ∧ Below w.heap.size w w' := by
  have HR0 := Aside0.mk hr0
  have HC0 := Aside0.mk hc0
  clear hr0 hc0
  have HB := Aside0.mk (Below.refl w.heap.size w)
  have H : (if (l0.length : Int) < 2 then (some (0, ([] : List (List Int)), false)) else ((spec_l4read.f k l0 2).bind fun bt344 => (if bt344.2 < 0 then (some (0, ([] : List (List Int)), false)) else ((spec_l4read.f k l0 bt344.2).bind fun bt346 => (if bt346.2 < 0 then (spec_l4lines.j0 k l0 bt344.1 bt346.1 bt346.2 true) else (spec_l4lines.j0 k l0 bt344.1 bt346.1 bt346.2 (decide (bt346.1 > 1000)))))))) = some (r1, r2, r3) := h
  clear h
  by_cases c2 : (l0.length : Int) < 2
  · rw [if_pos c2] at H
    have c2b0 : decide ((l0.length : Int) < 2) = true := decide_eq_true c2
    have c2b1 : decide (l0.length < 2) = true := decide_eq_true (by omega)
    clear c2
    simp only [Option.some.injEq, Prod.mk.injEq] at H
    obtain ⟨rfl, rfl, rfl⟩ := H
    go_enter Tryz.func67, Tryz.ntmps67
    go_wp2
    go_ret3
    exact ⟨_, by first | rfl | (simp [errW_none, errW_some] <;> rfl) | (simp [*, errW_none, errW_some] <;> rfl), by first | exact Kd.S_nil _ _ _ _ _ | exact Kd.N_nil _ _ _ _ _ | exact Kd.V_nil _ _ _ _ _ | exact Kd.Q_nil _ _ _ _ _ | exact Kd.R_nil _ _ _ _ _, by repeat (first | (with_reducible first | exact HB.out | apply below_alloc | apply pw_below_drewN | apply below_drew1) | exact HB.out)⟩
  · rw [if_neg c2] at H
    have c2b0 : decide ((l0.length : Int) < 2) = false := decide_eq_false c2
    have c2b1 : decide (l0.length < 2) = false := decide_eq_false (by omega)
    clear c2
    replace H := Option.bind_eq_some_iff.mp H
    obtain ⟨⟨t344, t345⟩, A30, H⟩ := H
    replace H : (if t345 < 0 then (some (0, ([] : List (List Int)), false)) else ((spec_l4read.f k l0 t345).bind fun bt346 => (if bt346.2 < 0 then (spec_l4lines.j0 k l0 t344 bt346.1 bt346.2 true) else (spec_l4lines.j0 k l0 t344 bt346.1 bt346.2 (decide (bt346.1 > 1000)))))) = some (r1, r2, r3) := H
    have A3 := Aside0.mk A30
    clear A30
    by_cases c4 : t345 < 0
    · rw [if_pos c4] at H
      have c4b0 : decide (t345 < 0) = true := decide_eq_true c4
      clear c4
      simp only [Option.some.injEq, Prod.mk.injEq] at H
      obtain ⟨rfl, rfl, rfl⟩ := H
      go_enter Tryz.func67, Tryz.ntmps67
      go_wp2_with (first | ((with_reducible refine gate_callee (f := 91) rfl ?_); refine goesL_ (some 19) rfl rfl Tryz.func91 (by kernel_rfl) rfl #[.slice A0 l0.length c0, .int .i64 2] rfl (by (try simp only [List.map_toArray, List.map_cons, List.map_nil]); first | done | rfl | (simp only [List.length_drop, List.length_take]; rfl)) ?_; (with_reducible refine (spec_l4read.calls k _ _ l0 2 t344 t345 _ ?side1 ?side2 A3.out).mono ?_); (case side1 => repeat (first | exact HR0.out | (with_reducible refine Kd.C_alloc ?_ _) | (with_reducible refine Kd.C_drewN ?_ _) | (with_reducible refine Kd.C_drew ?_))); (case side2 => exact HC0.out); rintro e w' ⟨rfl, ⟨nd, rfl⟩⟩; refine ⟨_, rfl, ?_⟩))
      go_ret3
      exact ⟨_, by first | rfl | (simp [errW_none, errW_some] <;> rfl) | (simp [*, errW_none, errW_some] <;> rfl), by first | exact Kd.S_nil _ _ _ _ _ | exact Kd.N_nil _ _ _ _ _ | exact Kd.V_nil _ _ _ _ _ | exact Kd.Q_nil _ _ _ _ _ | exact Kd.R_nil _ _ _ _ _, by repeat (first | (with_reducible first | exact HB.out | apply below_alloc | apply pw_below_drewN | apply below_drew1) | exact HB.out)⟩
    · rw [if_neg c4] at H
      have c4b0 : decide (t345 < 0) = false := decide_eq_false c4
      clear c4
      replace H := Option.bind_eq_some_iff.mp H
      obtain ⟨⟨t346, t347⟩, A50, H⟩ := H
      replace H : (if t347 < 0 then (spec_l4lines.j0 k l0 t344 t346 t347 true) else (spec_l4lines.j0 k l0 t344 t346 t347 (decide (t346 > 1000)))) = some (r1, r2, r3) := H
      have A5 := Aside0.mk A50
      clear A50
      have HC6 := Aside0.mk H
      clear H
      go_enter Tryz.func67, Tryz.ntmps67
      go_upto_region 7 with (first | ((with_reducible refine gate_callee (f := 91) rfl ?_); refine goesL_ (some 19) rfl rfl Tryz.func91 (by kernel_rfl) rfl #[.slice A0 l0.length c0, .int .i64 2] rfl (by (try simp only [List.map_toArray, List.map_cons, List.map_nil]); first | done | rfl | (simp only [List.length_drop, List.length_take]; rfl)) ?_; (with_reducible refine (spec_l4read.calls k _ _ l0 2 t344 t345 _ ?side1 ?side2 A3.out).mono ?_); (case side1 => repeat (first | exact HR0.out | (with_reducible refine Kd.C_alloc ?_ _) | (with_reducible refine Kd.C_drewN ?_ _) | (with_reducible refine Kd.C_drew ?_))); (case side2 => exact HC0.out); rintro e w' ⟨rfl, ⟨nd, rfl⟩⟩; refine ⟨_, rfl, ?_⟩) | ((with_reducible refine gate_callee (f := 91) rfl ?_); refine goesL_ (some 27) rfl rfl Tryz.func91 (by kernel_rfl) rfl #[.slice A0 l0.length c0, .int .i64 t345] rfl (by (try simp only [List.map_toArray, List.map_cons, List.map_nil]); first | done | rfl | (simp only [List.length_drop, List.length_take]; rfl)) ?_; (with_reducible refine (spec_l4read.calls k _ _ l0 t345 t346 t347 _ ?side1 ?side2 A5.out).mono ?_); (case side1 => repeat (first | exact HR0.out | (with_reducible refine Kd.C_alloc ?_ _) | (with_reducible refine Kd.C_drewN ?_ _) | (with_reducible refine Kd.C_drew ?_))); (case side2 => exact HC0.out); rintro e w' ⟨rfl, ⟨nd, rfl⟩⟩; refine ⟨_, rfl, ?_⟩))
      (try simp only [Act.put, List.setIfInBounds_toArray, List.set_cons_zero, List.set_cons_succ])
      go_cut [35] (fun v35 wc => ∃ (kq : Nat) (x35_5 : Bool), v35 = .bool x35_5 ∧ Aside0 (spec_l4lines.j0 kq l0 t344 t346 t347 x35_5 = some (r1, r2, r3)) ∧ Aside0 (kq ≤ k) ∧ Aside0 (Below w.heap.size w wc))
      case first =>
        have H := HC6.out
        clear HC6
        by_cases c7 : t347 < 0
        · rw [if_pos c7] at H
          have c7b0 : decide (t347 < 0) = true := decide_eq_true c7
          clear c7
          (first | rw [c7b0] | (simp only [i64_w, i32_w]; rw [c7b0]) | skip)
          have H' := Aside0.mk H
          clear H
          go_wp2
          go_meet
          case rel => exact ⟨_, (true), (by first | rfl | (simp; done) | (simp [*]; done)), H', ⟨by first | omega | exact Nat.le_refl _⟩, ⟨by repeat (first | (with_reducible first | exact HB.out | apply below_alloc | apply pw_below_drewN | apply below_drew1) | exact HB.out)⟩⟩
        · rw [if_neg c7] at H
          have c7b0 : decide (t347 < 0) = false := decide_eq_false c7
          clear c7
          (first | rw [c7b0] | (simp only [i64_w, i32_w]; rw [c7b0]) | skip)
          have H' := Aside0.mk H
          clear H
          go_wp2
          go_meet
          case rel => exact ⟨_, (decide (t346 > 1000)), (by first | rfl | (simp; done) | (simp [*]; done)), H', ⟨by first | omega | exact Nat.le_refl _⟩, ⟨by repeat (first | (with_reducible first | exact HB.out | apply below_alloc | apply pw_below_drewN | apply below_drew1) | exact HB.out)⟩⟩
      case rest =>
        clear HC6
        try clear c2
        try clear c2b0
        try clear c2b1
        try clear p2
        try clear c4
        try clear c4b0
        try clear c6
        try clear c7
        try clear c7b0
        obtain ⟨kq, x35_5, rfl, HA, HJ5, HB⟩ := hcut
        cases kq with
        | zero => exact absurd HA.out (by simp [spec_l4lines.j0])
        | succ kj5 =>
          have H := HA.out
          clear HA
          simp only [spec_l4lines.j0] at H
          by_cases c8 : x35_5 = true
          · subst c8
            have H1 : (some (0, ([] : List (List Int)), false)) = some (r1, r2, r3) := by rw [if_pos rfl] at H; exact H
            clear H
            have H := H1
            clear H1
            simp only [Option.some.injEq, Prod.mk.injEq] at H
            obtain ⟨rfl, rfl, rfl⟩ := H
            go_wp2
            go_ret3
            exact ⟨_, by first | rfl | (simp [errW_none, errW_some] <;> rfl) | (simp [*, errW_none, errW_some] <;> rfl), by first | exact Kd.S_nil _ _ _ _ _ | exact Kd.N_nil _ _ _ _ _ | exact Kd.V_nil _ _ _ _ _ | exact Kd.Q_nil _ _ _ _ _ | exact Kd.R_nil _ _ _ _ _, by repeat (first | (with_reducible first | exact HB.out | apply below_alloc | apply pw_below_drewN | apply below_drew1) | exact HB.out)⟩
          · replace c8 := Bool.eq_false_iff.mpr c8
            subst c8
            have H1 : (spec_l4lines.l0 kj5 l0 t344 t346 t347 ([] : List (List Int)) 0) = some (r1, r2, r3) := by rw [if_neg (show ¬ (false = true) by decide)] at H; exact H
            clear H
            have H := H1
            clear H1
            have H' := Aside0.mk H
            clear H
            go_wp2
            go_loopg [8, 9, 10] kj5 (fun kq v8 v9 v10 w' => ∃ (x8_2 : Int) (x9_2 : List (List Int)) (x10_2 : Int), v8 = .int .i64 x8_2 ∧ v10 = .int .i64 x10_2 ∧ Aside0 (spec_l4lines.l0 kq l0 t344 t346 x8_2 x9_2 x10_2 = some (r1, r2, r3)) ∧ Aside0 (kq ≤ kj5) ∧ Aside0 (Kd.S (Kd.slice 5 (Kd.int .u8)) 25 w' w.heap.size (fun _ => True) v9 x9_2) ∧ Aside0 (Below w.heap.size w w'))
            case atStart => exact ⟨(t347), (([] : List (List Int))), (0), (by first | rfl | (simp; done) | (simp [*]; done)), (by first | rfl | (simp; done) | (simp [*]; done)), H', ⟨Nat.le_refl _⟩, ⟨by first | exact Kd.S_nil _ _ _ _ _ | exact Kd.N_nil _ _ _ _ _ | exact Kd.V_nil _ _ _ _ _ | exact Kd.Q_nil _ _ _ _ _ | exact Kd.R_nil _ _ _ _ _⟩, ⟨by repeat (first | (with_reducible first | exact HB.out | apply below_alloc | apply pw_below_drewN | apply below_drew1) | exact HB.out)⟩⟩
            case round =>
              clear H'
              try clear c2
              try clear c2b0
              try clear c2b1
              try clear p2
              try clear c4
              try clear c4b0
              try clear c6
              try clear c7
              try clear c7b0
              try clear c8
              try clear p2
              obtain ⟨x8_2, x9_2, x10_2, rfl, rfl, HA, HK2, HO_9, HB⟩ := hrel
              cases gk with
              | zero => exact absurd HA.out (by simp [spec_l4lines.l0])
              | succ k2 =>
                have H := HA.out
                clear HA
                simp only [spec_l4lines.l0] at H
                by_cases c9 : x10_2 < t346
                · rw [if_pos c9] at H
                  have c9b0 : decide (x10_2 < t346) = true := decide_eq_true c9
                  clear c9
                  replace H := Option.bind_eq_some_iff.mp H
                  obtain ⟨⟨t348, t349⟩, A100, H⟩ := H
                  replace H : (if t349 < 0 then (some (0, ([] : List (List Int)), false)) else (if t348 > (wrap64 ((l0.length : Int) - t349)) then (some (0, ([] : List (List Int)), false)) else (if 0 ≤ t349 then (if t349 ≤ (wrap64 (t349 + t348)) then (if (wrap64 (t349 + t348)) ≤ (l0.length : Int) then (if ([] : List Int).length + ((l0.take ((wrap64 (t349 + t348)) : Int).toNat).drop (t349 : Int).toNat).length < 140737488355328 then (if x9_2.length < 5864062014805 then (spec_l4lines.l0 k2 l0 t344 t346 (wrap64 (t349 + t348)) (x9_2 ++ [(([] : List Int) ++ ((l0.take ((wrap64 (t349 + t348)) : Int).toNat).drop (t349 : Int).toNat))]) (wrap64 (x10_2 + 1))) else (none)) else (none)) else (none)) else (none)) else (none)))) = some (r1, r2, r3) := H
                  have A10 := Aside0.mk A100
                  clear A100
                  by_cases c11 : t349 < 0
                  · rw [if_pos c11] at H
                    have c11b0 : decide (t349 < 0) = true := decide_eq_true c11
                    clear c11
                    simp only [Option.some.injEq, Prod.mk.injEq] at H
                    obtain ⟨rfl, rfl, rfl⟩ := H
                    go_wp2_with (first | ((with_reducible refine gate_callee (f := 91) rfl ?_); refine goesL_ (some 44) rfl rfl Tryz.func91 (by kernel_rfl) rfl #[.slice A0 l0.length c0, .int .i64 x8_2] rfl (by (try simp only [List.map_toArray, List.map_cons, List.map_nil]); first | done | rfl | (simp only [List.length_drop, List.length_take]; rfl)) ?_; (with_reducible refine (spec_l4read.calls k2 _ _ l0 x8_2 t348 t349 _ ?side1 ?side2 A10.out).mono ?_); (case side1 => repeat (first | exact (Kd.C_below HR0.out HB.out) | (with_reducible refine Kd.C_alloc ?_ _) | (with_reducible refine Kd.C_drewN ?_ _) | (with_reducible refine Kd.C_drew ?_))); (case side2 => exact HC0.out); rintro e w' ⟨rfl, ⟨nd, rfl⟩⟩; refine ⟨_, rfl, ?_⟩))
                    go_ret3
                    exact ⟨_, by first | rfl | (simp [errW_none, errW_some] <;> rfl) | (simp [*, errW_none, errW_some] <;> rfl), by first | exact Kd.S_nil _ _ _ _ _ | exact Kd.N_nil _ _ _ _ _ | exact Kd.V_nil _ _ _ _ _ | exact Kd.Q_nil _ _ _ _ _ | exact Kd.R_nil _ _ _ _ _, by repeat (first | (with_reducible first | exact HB.out | apply below_alloc | apply pw_below_drewN | apply below_drew1) | exact HB.out)⟩
                  · rw [if_neg c11] at H
                    have c11b0 : decide (t349 < 0) = false := decide_eq_false c11
                    clear c11
                    by_cases c12 : t348 > (wrap64 ((l0.length : Int) - t349))
                    · rw [if_pos c12] at H
                      have c12b0 : decide ((wrap64 ((l0.length : Int) - t349)) < t348) = true := decide_eq_true c12
                      clear c12
                      simp only [Option.some.injEq, Prod.mk.injEq] at H
                      obtain ⟨rfl, rfl, rfl⟩ := H
                      go_wp2_with (first | ((with_reducible refine gate_callee (f := 91) rfl ?_); refine goesL_ (some 44) rfl rfl Tryz.func91 (by kernel_rfl) rfl #[.slice A0 l0.length c0, .int .i64 x8_2] rfl (by (try simp only [List.map_toArray, List.map_cons, List.map_nil]); first | done | rfl | (simp only [List.length_drop, List.length_take]; rfl)) ?_; (with_reducible refine (spec_l4read.calls k2 _ _ l0 x8_2 t348 t349 _ ?side1 ?side2 A10.out).mono ?_); (case side1 => repeat (first | exact (Kd.C_below HR0.out HB.out) | (with_reducible refine Kd.C_alloc ?_ _) | (with_reducible refine Kd.C_drewN ?_ _) | (with_reducible refine Kd.C_drew ?_))); (case side2 => exact HC0.out); rintro e w' ⟨rfl, ⟨nd, rfl⟩⟩; refine ⟨_, rfl, ?_⟩))
                      go_ret3
                      exact ⟨_, by first | rfl | (simp [errW_none, errW_some] <;> rfl) | (simp [*, errW_none, errW_some] <;> rfl), by first | exact Kd.S_nil _ _ _ _ _ | exact Kd.N_nil _ _ _ _ _ | exact Kd.V_nil _ _ _ _ _ | exact Kd.Q_nil _ _ _ _ _ | exact Kd.R_nil _ _ _ _ _, by repeat (first | (with_reducible first | exact HB.out | apply below_alloc | apply pw_below_drewN | apply below_drew1) | exact HB.out)⟩
                    · rw [if_neg c12] at H
                      have c12b0 : decide ((wrap64 ((l0.length : Int) - t349)) < t348) = false := decide_eq_false c12
                      clear c12
                      by_cases c13 : 0 ≤ t349
                      · rw [if_pos c13] at H
                        have c13b0 := eq_true c13
                        have c13b1 : decide (0 ≤ t349) = true := decide_eq_true c13
                        clear c13
                        by_cases c14 : t349 ≤ (wrap64 (t349 + t348))
                        · rw [if_pos c14] at H
                          have c14b0 := eq_true c14
                          have c14b1 : decide (t349 ≤ (wrap64 (t349 + t348))) = true := decide_eq_true c14
                          by_cases c15 : (wrap64 (t349 + t348)) ≤ (l0.length : Int)
                          · rw [if_pos c15] at H
                            have c15b0 := eq_true c15
                            have c15b1 : decide ((wrap64 (t349 + t348)) ≤ (l0.length : Int)) = true := decide_eq_true c15
                            by_cases c16 : ([] : List Int).length + ((l0.take ((wrap64 (t349 + t348)) : Int).toNat).drop (t349 : Int).toNat).length < 140737488355328
                            · rw [if_pos c16] at H
                              have LMc16 := Aside0.mk c16
                              clear c16
                              obtain ⟨y351, hy351⟩ : ∃ y_ : List Int, y_ = (([] : List Int) ++ ((l0.take ((wrap64 (t349 + t348)) : Int).toNat).drop (t349 : Int).toNat)) := ⟨_, rfl⟩
                              replace H : (if x9_2.length < 5864062014805 then (spec_l4lines.l0 k2 l0 t344 t346 (wrap64 (t349 + t348)) (x9_2 ++ [y351]) (wrap64 (x10_2 + 1))) else (none)) = some (r1, r2, r3) := by first | (rw [hy351]; with_reducible exact H) | (have H2_ := (Option.bind_some _ _).symm.trans H; rw [hy351]; with_reducible exact H2_) | (have H2_ := (Option.bind_some _ _).symm.trans H; with_reducible exact H2_) | with_reducible exact H | (rw [hy351]; exact H) | exact H
                              have Ny351 := Aside0.mk hy351
                              clear hy351
                              by_cases c17 : x9_2.length < 5864062014805
                              · rw [if_pos c17] at H
                                have LMc17 := Aside0.mk c17
                                clear c17
                                obtain ⟨y354, hy354⟩ : ∃ y_ : List (List Int), y_ = (x9_2 ++ [y351]) := ⟨_, rfl⟩
                                replace H : (spec_l4lines.l0 k2 l0 t344 t346 (wrap64 (t349 + t348)) y354 (wrap64 (x10_2 + 1))) = some (r1, r2, r3) := by first | (rw [hy354]; with_reducible exact H) | (have H2_ := (Option.bind_some _ _).symm.trans H; rw [hy354]; with_reducible exact H2_) | (have H2_ := (Option.bind_some _ _).symm.trans H; with_reducible exact H2_) | with_reducible exact H | (rw [hy354]; exact H) | exact H
                                have Ny354 := Aside0.mk hy354
                                clear hy354
                                have H' := Aside0.mk H
                                clear H
                                go_wp2_with (first | ((with_reducible refine gate_callee (f := 91) rfl ?_); refine goesL_ (some 44) rfl rfl Tryz.func91 (by kernel_rfl) rfl #[.slice A0 l0.length c0, .int .i64 x8_2] rfl (by (try simp only [List.map_toArray, List.map_cons, List.map_nil]); first | done | rfl | (simp only [List.length_drop, List.length_take]; rfl)) ?_; (with_reducible refine (spec_l4read.calls k2 _ _ l0 x8_2 t348 t349 _ ?side1 ?side2 A10.out).mono ?_); (case side1 => repeat (first | exact (Kd.C_below HR0.out HB.out) | (with_reducible refine Kd.C_alloc ?_ _) | (with_reducible refine Kd.C_drewN ?_ _) | (with_reducible refine Kd.C_drew ?_))); (case side2 => exact HC0.out); rintro e w' ⟨rfl, ⟨nd, rfl⟩⟩; refine ⟨_, rfl, ?_⟩; obtain ⟨i018, hi018, _, hsz18, _⟩ := info_parts info5; obtain ⟨A18, hcut18, hA18, hC18⟩ := print_mid_of (P := Tryz.prog) (Value.int .u8) 0 25 5 .i64 .i64 Tryz.underlying25 hi018 hsz18 A0 c0 l0 t349 (wrap64 (t349 + t348)) (of_decide_eq_true (by first | (with_reducible assumption) | assumption)) (by first | omega | exact of_decide_eq_true (by first | (with_reducible assumption) | assumption)) (of_decide_eq_true (by first | (with_reducible assumption) | assumption)) HC0.out; have HR350 := Aside0.mk (Kd.C_of_reads (h1 := fun _ => rfl) (hA18 _ (Kd.reads_of_C HR0.out))); have HC350 := Aside0.mk hC18; clear hA18 hC18 hi018 hsz18) | ((with_reducible refine gate_builtin (b := .append) (xs := #[.tmp 57, .tmp 63]) rfl ?_); (try (refine gate_guard (by rfl) ?_; dsimp only)); at_builtin; refine Kd.R_append_rows (Kd.int .u8) (w0 := w) w.heap.size rfl (.tmp 57) (.tmp 63) 25 5 (.int .u8 0) 1 rfl Tryz.underlying25 info5 rfl (by decide) (by omega) (.slice none 0 0) ([] : List Int) ((l0.take ((wrap64 (t349 + t348)) : Int).toNat).drop (t349 : Int).toNat) _ _ _ (fun _ => True) (fun _ => False) rfl rfl ?aO ?aR (fun _ _ h => h) (fun _ h => h.elim) ?aF ?aB ?aS ?aL ?_; (case aR => first | (rw [← show ((l0.take ((wrap64 (t349 + t348)) : Int).toNat).drop (t349 : Int).toNat).length = ((wrap64 (t349 + t348)).toNat - t349.toNat) from (by rw [List.length_drop, List.length_take]; have h_ : ((wrap64 (t349 + t348)) : Int) ≤ (l0.length : Int) := of_decide_eq_true (by first | (with_reducible assumption) | assumption); omega)]; repeat (first | exact (Kd.C_below HR350.out (by repeat (first | (with_reducible first | exact HB.out | apply below_alloc | apply pw_below_drewN | apply below_drew1) | exact HB.out))) | (with_reducible refine Kd.C_alloc ?_ _) | (with_reducible refine Kd.C_drewN ?_ _) | (with_reducible refine Kd.C_drew ?_))) | (repeat (first | exact (Kd.C_below HR350.out (by repeat (first | (with_reducible first | exact HB.out | apply below_alloc | apply pw_below_drewN | apply below_drew1) | exact HB.out))) | (with_reducible refine Kd.C_alloc ?_ _) | (with_reducible refine Kd.C_drewN ?_ _) | (with_reducible refine Kd.C_drew ?_)))); (case aB => exact (by repeat (first | (with_reducible first | exact HB.out | apply below_alloc | apply pw_below_drewN | apply below_drew1) | exact HB.out))); (case aF => exact (fun _ _ => trivial)); (case aO => exact ((Kd.R_nil _ _ _ _ (fun _ => True)))); (case aS => exact (below_size (by repeat (first | (with_reducible first | exact HB.out | apply below_alloc | apply pw_below_drewN | apply below_drew1) | exact HB.out)))); (case aL => have := LMc16.out; have hlx_ := (show ((l0.take ((wrap64 (t349 + t348)) : Int).toNat).drop (t349 : Int).toNat).length = ((wrap64 (t349 + t348)).toNat - t349.toNat) from (by rw [List.length_drop, List.length_take]; have h_ : ((wrap64 (t349 + t348)) : Int) ≤ (l0.length : Int) := of_decide_eq_true (by first | (with_reducible assumption) | assumption); omega)); omega); intro v352 w19 ho hb hg hat; rw [← Ny351.out] at ho; have n0_ := Aside0.mk (Kd.S_after (Kd.S_apart_nil (by (with_reducible repeat (first | apply Kd.S_alloc | apply Kd.S_drewN | apply Kd.S_drew)); exact HO_9.out)) hg hat); have n1_ := Aside0.mk (hb); have n2_ := Aside0.mk (ho); clear HO_9; clear HB; have HO_9 := n0_; have HB := n1_; have HO353 := n2_; clear n0_ n1_ n2_; clear ho hb hg hat; obtain ⟨Ao21, co21, eo21⟩ := Kd.R_slice HO353.out; subst eo21) | ((with_reducible refine gate_builtin (b := .append) (xs := #[.tmp 65, .tmp 67]) rfl ?_); (try (refine gate_guard (by rfl) ?_; dsimp only)); at_builtin; refine Kd.S_append (Kd.slice 5 (Kd.int .u8)) (w0 := w) w.heap.size rfl (.tmp 65) (.tmp 67) 22 25 (.slice none 0 0) 24 rfl Tryz.underlying22 info25 rfl (by decide) (by omega) u9 x9_2 y351 [.slice Ao21 y351.length co21] (fun _ => True) (fun k_ => some k_ = (.slice Ao21 y351.length co21 : Value).ownBlock) rfl rfl ?aP (fun k_ hk_ => ((Kd.R_mono (ok' := fun k_ => ((fun _ => True)) k_ ∧ some k_ ≠ (u9 : Value).ownBlock) (Kd.R_apart' (HO353.out) (Kd.S_typed HO_9.out) (by decide)) (fun k_ hk => ⟨trivial, hk.2⟩))).1 k_ hk_.symm) ?aF ?aO ?aB ?aS ?aL ?_; (case aP => exact Kd.M_row (Kd.R_mono (Kd.R_tight rfl (Kd.R_mono (ok' := fun k_ => ((fun _ => True)) k_ ∧ some k_ ≠ (u9 : Value).ownBlock) (Kd.R_apart' (HO353.out) (Kd.S_typed HO_9.out) (by decide)) (fun k_ hk => ⟨trivial, hk.2⟩))) (fun _ h_ => h_))); (case aB => exact (by repeat (first | (with_reducible first | exact HB.out | apply below_alloc | apply pw_below_drewN | apply below_drew1) | exact HB.out))); (case aF => exact (fun _ _ => trivial)); (case aO => exact (by (with_reducible repeat (first | apply Kd.S_alloc | apply Kd.S_drewN | apply Kd.S_drew)); exact Kd.S_mono HO_9.out (fun k_ hk => ⟨trivial, fun e_ => hk.2 e_⟩))); (case aS => exact (below_size (by repeat (first | (with_reducible first | exact HB.out | apply below_alloc | apply pw_below_drewN | apply below_drew1) | exact HB.out)))); (case aL => have := LMc17.out; omega); intro v355 w20 ho hb hg hat; rw [← Ny354.out] at ho; have n0_ := Aside0.mk (hb); have n1_ := Aside0.mk (ho); clear HB; clear HO_9; clear HO353; have HB := n0_; have HO356 := n1_; clear n0_ n1_; clear ho hb hg hat))
                                go_roundg k2
                                case measure => have := HJ5.out; have := HK2.out; omega
                                case rel => exact ⟨(wrap64 (t349 + t348)), (y354), (wrap64 (x10_2 + 1)), (by first | rfl | (simp; done) | (simp [*]; done)), (by first | rfl | (simp; done) | (simp [*]; done)), H', ⟨by have := HJ5.out; have := HK2.out; omega⟩, ⟨by (with_reducible repeat (first | apply Kd.S_alloc | apply Kd.S_drewN | apply Kd.S_drew)); exact HO356.out⟩, ⟨by repeat (first | (with_reducible first | exact HB.out | apply below_alloc | apply pw_below_drewN | apply below_drew1) | exact HB.out)⟩⟩
                              · rw [if_neg c17] at H
                                exact absurd H (by simp)
                            · rw [if_neg c16] at H
                              exact absurd H (by simp)
                          · rw [if_neg c15] at H
                            exact absurd H (by simp)
                        · rw [if_neg c14] at H
                          exact absurd H (by simp)
                      · rw [if_neg c13] at H
                        exact absurd H (by simp)
                · rw [if_neg c9] at H
                  have c9b0 : decide (x10_2 < t346) = false := decide_eq_false c9
                  clear c9
                  simp only [Option.some.injEq, Prod.mk.injEq] at H
                  obtain ⟨rfl, rfl, rfl⟩ := H
                  go_wp2
                  go_ret3
                  exact ⟨_, by first | rfl | (simp [errW_none, errW_some] <;> rfl) | (simp [*, errW_none, errW_some] <;> rfl), by (with_reducible repeat (first | apply Kd.S_alloc | apply Kd.S_drewN | apply Kd.S_drew)); exact HO_9.out, by repeat (first | (with_reducible first | exact HB.out | apply below_alloc | apply pw_below_drewN | apply below_drew1) | exact HB.out)⟩
def spec_DecodeSegment.j0 : Nat → List Int → Int → List (List Int) → Bool → Option (Int × (List (List Int)) × List Int × (List (List Int)) × Int)
 | 0, _, _, _, _ => none
 | k + 1, x0, x4, x5, x21 => if x21 = true then (some (0, ([] : List (List Int)), ([] : List Int), ([] : List (List Int)), 5)) else ((spec_l4build.f k x4 x5).bind fun bt364 => ((spec_l4encode.f k bt364.1 bt364.2.1 bt364.2.2.1 bt364.2.2.2).bind fun t375 => ((spec_l4sameBytes.f t375 x0).bind fun t378 => (if t378 = true then (some (bt364.1, bt364.2.1, bt364.2.2.1, bt364.2.2.2, 0)) else (some (0, ([] : List (List Int)), ([] : List Int), ([] : List (List Int)), 5))))))
def spec_DecodeSegment.f (k : Nat) (l0 : List Int) : Option (Int × (List (List Int)) × List Int × (List (List Int)) × Int) := (spec_l4lines.f k l0).bind fun bt358 => (if bt358.2.2 = true then ((spec_l4fits.f k bt358.1 bt358.2.1).bind fun t363 => (spec_DecodeSegment.j0 k l0 bt358.1 bt358.2.1 (!t363))) else (spec_DecodeSegment.j0 k l0 bt358.1 bt358.2.1 true))
theorem spec_DecodeSegment.mono_l : ∀ k, (∀ y0 y1 y2 y3, LeO (spec_DecodeSegment.j0 k y0 y1 y2 y3) (spec_DecodeSegment.j0 (k + 1) y0 y1 y2 y3))
  | 0 => fun _ _ _ _ r h => by simp [spec_DecodeSegment.j0] at h
  | k + 1 => by
    have ih0 := spec_DecodeSegment.mono_l k
    · intro y0 y1 y2 y3
      unfold spec_DecodeSegment.j0
      repeat' first
      | (with_reducible exact ih0 _ _ _ _)
      | (with_reducible exact spec_l4build.mono _ _ _)
      | (with_reducible exact spec_l4encode.mono _ _ _ _ _)
      | (with_reducible exact spec_l4fits.mono _ _ _)
      | (with_reducible exact spec_l4lines.mono _ _)
      | (with_reducible exact LeO.refl _)
      | (with_reducible exact LeO.none _)
      | (with_reducible refine LeO.ite ?_ ?_)
      | (with_reducible refine LeO.bind ?_ (fun _ => ?_))
      | exact ih0 _ _ _ _
      | exact spec_l4build.mono _ _ _
      | exact spec_l4encode.mono _ _ _ _ _
      | exact spec_l4fits.mono _ _ _
      | exact spec_l4lines.mono _ _
      | exact LeO.none _
      | refine LeO.ite ?_ ?_
      | refine LeO.bind ?_ (fun _ => ?_)
theorem spec_DecodeSegment.mono : ∀ a0 k, LeO (spec_DecodeSegment.f k a0) (spec_DecodeSegment.f (k + 1) a0) := by
 intro a0 k
 have ih0 := spec_DecodeSegment.mono_l k
 unfold spec_DecodeSegment.f
 repeat' first
   | (with_reducible exact ih0 _ _ _ _)
   | (with_reducible exact spec_l4build.mono _ _ _)
   | (with_reducible exact spec_l4encode.mono _ _ _ _ _)
   | (with_reducible exact spec_l4fits.mono _ _ _)
   | (with_reducible exact spec_l4lines.mono _ _)
   | (with_reducible exact LeO.refl _)
   | (with_reducible exact LeO.none _)
   | (with_reducible refine LeO.ite ?_ ?_)
   | (with_reducible refine LeO.bind ?_ (fun _ => ?_))
   | exact ih0 _ _ _ _
   | exact spec_l4build.mono _ _ _
   | exact spec_l4encode.mono _ _ _ _ _
   | exact spec_l4fits.mono _ _ _
   | exact spec_l4lines.mono _ _
   | exact LeO.none _
   | refine LeO.ite ?_ ?_
   | refine LeO.bind ?_ (fun _ => ?_)
end Go.Proofs.YtmgmdnmfalepkaaGreat.L

namespace Go.Proofs.YtmgmdnmfalepkaaGreat.PDec
open Go.RowKit Go.Proofs.YtmgmdnmfalepkaaGreatW.PrintWords Go.Proofs.YtmgmdnmfalepkaaGreat.PKit Go.Proofs.YtmgmdnmfalepkaaGreat.PSeg Go.Proofs.YtmgmdnmfalepkaaGreat.PEnc Go.Proofs.YtmgmdnmfalepkaaGreat.L Go.Proofs.YtmgmdnmfalepkaaGreat.HelpBB
set_option linter.unusedVariables false
def readV (n : Nat) (o : Option (Nat × List Int)) : Int × Int := match o with
  | some q => ((q.1 : Int), ((n - q.2.length : Nat) : Int))
  | none => (0, -1)
theorem getD_drop (b : List Int) (i : Nat) (h : i < b.length) : b.drop i = b.getD i 0 :: b.drop (i + 1) := by
  rw [List.drop_eq_getElem_cons h]
  simp [List.getD, List.getElem?_eq_getElem h]
theorem read_ev (b : List Int) (i : Nat) (hb : ∀ x ∈ b, 0 ≤ x ∧ x ≤ 255) (hl : b.length ≤ 1048576) (hi : i ≤ b.length) : Ev (fun k => spec_l4read.f k b (i : Int)) (readV b.length (rdNum 4 (b.drop i))) := by
  have key : ∀ (d j v p : Nat), j + d = 4 → ((j = 0 ∧ p = 1) ∨ (j = 1 ∧ p = 128) ∨ (j = 2 ∧ p = 16384) ∨ (j = 3 ∧ p = 2097152) ∨ j = 4) → v < p → Ev (fun k => spec_l4read.l0 k b (i : Int) (v : Int) (p : Int) (j : Int)) (readV b.length ((rdNum d (b.drop (i + j))).map fun q => (v + p * q.1, q.2))) := by
    intro d
    induction d with
    | zero =>
      intro j v p hj hp hv
      refine Ev.step (f := fun _ => some ((0 : Int), (-1 : Int))) (fun k => ?_) (Ev.now _)
      simp only [spec_l4read.l0]
      rw [if_neg (by omega)]
    | succ d ih =>
      intro j v p hj hp hv
      have HW := Aside0.mk (show wrap64 ((i : Int) + (j : Int)) = ((i + j : Nat) : Int) from by rw [wrap_in (by omega)]; omega)
      have hpb : p ≤ 2097152 := by omega
      have hp1 : ((j + 1 = 0 ∧ p * 128 = 1) ∨ (j + 1 = 1 ∧ p * 128 = 128) ∨ (j + 1 = 2 ∧ p * 128 = 16384) ∨ (j + 1 = 3 ∧ p * 128 = 2097152) ∨ j + 1 = 4) := by omega
      have HP1 := Aside0.mk hp1
      clear hp1
      clear hp
      by_cases hlt : i + j < b.length
      · rw [getD_drop b (i + j) hlt]
        obtain ⟨c0, c1⟩ := hb (b.getD (i + j) 0) (by rw [getD_get b (i + j) hlt]; exact List.getElem_mem hlt)
        have hrd : rd b ((i + j : Nat) : Int) = b.getD (i + j) 0 := rfl
        generalize b.getD (i + j) 0 = c at c0 c1 hrd ⊢
        have HC := Aside0.mk (show wrap64 c = c from wrap_in (by omega))
        obtain ⟨n, rfl⟩ : ∃ n : Nat, c = (n : Int) := ⟨c.toNat, by omega⟩
        have hm : n % 128 * p ≤ 127 * p := Nat.mul_le_mul_right _ (by omega)
        have hm' : Int.tmod (n : Int) 128 * (p : Int) = ((n % 128 * p : Nat) : Int) := by
          have : Int.tmod (n : Int) 128 = ((n % 128 : Nat) : Int) := rfl
          rw [this, ← Int.natCast_mul]
        have HV := Aside0.mk (show wrap64 ((v : Int) + wrap64 (Int.tmod (n : Int) 128 * (p : Int))) = ((v + n % 128 * p : Nat) : Int) from by
          rw [hm']
          generalize n % 128 * p = z at hm
          rw [wrap_in (x := (z : Int)) (by omega), wrap_in (by omega)]
          omega)
        clear hm'
        by_cases h128 : n < 128
        · have hz : (n : Int) < 128 := by omega
          have e : rdNum (d + 1) ((n : Int) :: b.drop (i + j + 1)) = some (n, b.drop (i + j + 1)) := by
            show (if (n : Int) < 128 then _ else _) = _
            rw [if_pos hz, Int.toNat_natCast]
          rw [e]
          refine Ev.step (f := fun _ => some (((v + n % 128 * p : Nat) : Int), ((i + j + 1 : Nat) : Int))) (fun k => ?_) ?_
          · simp only [spec_l4read.l0]
            rw [HW.out, if_pos (by omega), if_neg (by omega), if_pos (by omega), if_pos (by omega), hrd, HC.out, if_pos hz, HV.out, wrap_succ (i + j) (by omega)]
          · have e2 : readV b.length ((some (n, b.drop (i + j + 1))).map fun q => (v + p * q.1, q.2)) = (((v + n % 128 * p : Nat) : Int), ((i + j + 1 : Nat) : Int)) := by
              unfold readV
              simp only [Option.map_some, List.length_drop]
              have hsub : b.length - (b.length - (i + j + 1)) = i + j + 1 := by omega
              rw [Nat.mod_eq_of_lt h128, Nat.mul_comm n, hsub]
            rw [e2]
            exact Ev.now _
        · have hz : ¬ (n : Int) < 128 := by omega
          have e : rdNum (d + 1) ((n : Int) :: b.drop (i + j + 1)) = (rdNum d (b.drop (i + j + 1))).map fun q => (n % 128 + 128 * q.1, q.2) := by
            show (if (n : Int) < 128 then _ else _) = _
            rw [if_neg hz, Int.toNat_natCast]
          have e2 : ((rdNum (d + 1) ((n : Int) :: b.drop (i + j + 1))).map fun q => (v + p * q.1, q.2)) = (rdNum d (b.drop (i + (j + 1)))).map fun q => ((v + n % 128 * p) + (p * 128) * q.1, q.2) := by
            rw [e, Option.map_map, Nat.add_assoc i j 1]
            refine congrArg (fun f => Option.map f _) (funext fun q => ?_)
            simp only [Function.comp]
            rw [Nat.mul_add, ← Nat.mul_assoc, Nat.mul_comm (n % 128), Nat.add_assoc]
          rw [e2]
          have hlt2 : v + n % 128 * p < p * 128 := by
            generalize n % 128 * p = z at hm
            omega
          refine Ev.step (fun k => ?_) (ih (j + 1) (v + n % 128 * p) (p * 128) (by omega) HP1.out hlt2)
          simp only [spec_l4read.l0]
          rw [HW.out, if_pos (by omega), if_neg (by omega), if_pos (by omega), if_pos (by omega), hrd, HC.out, if_neg hz, HV.out, wrap_succ j (by omega)]
          rw [wrap_in (x := (p : Int) * 128) (by omega)]
          rfl
      · have e : b.drop (i + j) = [] := List.drop_of_length_le (by omega)
        rw [e]
        refine Ev.step (f := fun _ => some ((0 : Int), (-1 : Int))) (fun k => ?_) (Ev.now _)
        simp only [spec_l4read.l0]
        rw [HW.out, if_pos (by omega), if_pos (by omega)]
  have h := key 4 0 0 1 rfl (.inl ⟨rfl, rfl⟩) (by decide)
  have e : ((rdNum 4 (b.drop (i + 0))).map fun q => (0 + 1 * q.1, q.2)) = rdNum 4 (b.drop i) := by
    rw [Nat.add_zero]
    cases rdNum 4 (b.drop i) with
    | none => rfl
    | some q => simp
  rw [e] at h
  exact Ev.congr (fun k => by simp only [spec_l4read.f]; rfl) h
def linesV (base : Int) (acc : List (List Int)) (o : Option (List (List Int) × List Int)) : Int × List (List Int) × Bool := match o with
  | some q => (base, acc ++ q.1, true)
  | none => (0, [], false)
theorem lines_ev (b : List Int) (hb : ∀ x ∈ b, 0 ≤ x ∧ x ≤ 255) (hl : b.length ≤ 1048576) : Ev (fun k => spec_l4lines.f k b) (match specP b with | some q => (q.1, q.2, true) | none => (0, [], false)) := by
  have L0 : ∀ (base : Int) (n pos0 : Nat) (d j pos : Nat) (acc : List (List Int)), n ≤ 1000 → j + d = n → pos ≤ b.length → acc.length = j → Ev (fun k => spec_l4lines.l0 k b base (n : Int) (pos : Int) acc (j : Int)) (linesV base acc (rdLines 4 d (b.drop pos))) := by
    intro base n pos0 d
    induction d with
    | zero =>
      intro j pos acc hn hj hp ha
      refine Ev.step (f := fun _ => some (base, acc, true)) (fun k => ?_) (by unfold linesV rdLines; simp only [List.append_nil]; exact Ev.now _)
      simp only [spec_l4lines.l0]
      rw [if_neg (by omega)]
    | succ d ih =>
      intro j pos acc hn hj hp ha
      have hr := read_ev b pos hb hl hp
      have e : rdLines 4 (d + 1) (b.drop pos) = (rdLine 4 (b.drop pos)).bind fun q => (rdLines 4 d q.2).map fun p => (q.1 :: p.1, p.2) := rfl
      rw [e]
      unfold rdLine
      have hs : ∀ k : Nat, spec_l4lines.l0 (k + 1) b base (n : Int) (pos : Int) acc (j : Int) = _ := fun k => by
        simp only [spec_l4lines.l0]
        rw [if_pos (by omega)]
      refine Ev.step hs (Ev.bind hr ?_)
      cases hq : rdNum 4 (b.drop pos) with
      | none =>
        have e1 : readV b.length (none : Option (Nat × List Int)) = (0, -1) := rfl
        rw [e1]
        refine Ev.congr (f := fun _ => some _) (fun k => ?_) (Ev.now _)
        rw [if_pos (by decide)]
        rfl
      | some q =>
        obtain ⟨m, r⟩ := q
        obtain ⟨q1, mm, q2, q3, q4, q5⟩ := rdNum_some 4 (b.drop pos) m r (bytes_drop hb pos) hq
        rw [List.length_drop] at q4
        rw [List.drop_drop] at q5
        have hlr : r.length = b.length - (pos + mm) := by rw [q5, List.length_drop]
        have hm4 : m < 268435456 := Nat.lt_of_lt_of_le q1 (by decide)
        clear q1
        have e1 : readV b.length (some (m, r)) = ((m : Int), ((pos + mm : Nat) : Int)) := by
          have hsub : b.length - r.length = pos + mm := by omega
          unfold readV
          simp only
          rw [hsub]
        rw [e1]
        have HW1 := Aside0.mk (show wrap64 ((b.length : Int) - ((pos + mm : Nat) : Int)) = ((b.length - (pos + mm) : Nat) : Int) from by rw [wrap_in (by omega)]; omega)
        have HW2 := Aside0.mk (show wrap64 (((pos + mm : Nat) : Int) + (m : Int)) = ((pos + mm + m : Nat) : Int) from by rw [wrap_in (by omega)]; omega)
        by_cases hm : m ≤ r.length
        · have hR : ((some (m, r)).bind fun q => if q.1 ≤ q.2.length then some (q.2.take q.1, q.2.drop q.1) else none) = some (r.take m, b.drop (pos + mm + m)) := by
            rw [Option.bind_some]
            simp only
            rw [if_pos hm, q5, List.drop_drop]
          rw [hR]
          have hnext := ih (j + 1) (pos + mm + m) (acc ++ [r.take m]) hn (by omega) (by omega) (by simp [ha])
          have hV : linesV base acc ((some (r.take m, b.drop (pos + mm + m))).bind fun q => (rdLines 4 d q.2).map fun p => (q.1 :: p.1, p.2)) = linesV base (acc ++ [r.take m]) (rdLines 4 d (b.drop (pos + mm + m))) := by
            rw [Option.bind_some]
            cases rdLines 4 d (b.drop (pos + mm + m)) with
            | none => rfl
            | some p => unfold linesV; simp
          rw [hV]
          have hcut : (b.take (pos + mm + m)).drop (pos + mm) = r.take m := by
            rw [List.drop_take, q5]
            congr 1
            omega
          refine Ev.congr (fun k => ?_) hnext
          simp only
          rw [if_neg (by omega), HW1.out, HW2.out, if_neg (by omega), if_pos (by omega), if_pos (by omega), if_pos (by omega), Int.toNat_natCast, Int.toNat_natCast, hcut, if_pos (by simp only [List.length_nil, List.length_take]; omega), if_pos (by omega), List.nil_append, wrap_succ j (by omega)]
        · have hR : ((some (m, r)).bind fun q => if q.1 ≤ q.2.length then some (q.2.take q.1, q.2.drop q.1) else none) = none := by
            rw [Option.bind_some]
            simp only
            rw [if_neg hm]
          rw [hR]
          refine Ev.congr (f := fun _ => some _) (fun k => ?_) (Ev.now _)
          simp only
          rw [if_neg (by omega), HW1.out, if_pos (by omega)]
          rfl
  by_cases h2 : b.length < 2
  · have e : specP b = none := by unfold specP; rw [if_pos h2]
    rw [e]
    refine Ev.congr (f := fun _ => some _) (fun k => ?_) (Ev.now _)
    simp only [spec_l4lines.f]
    rw [if_pos (by omega)]
  · have e : specP b = rdHead 4 (b.drop 2) := by unfold specP; rw [if_neg h2]
    rw [e]
    unfold rdHead
    have hr := read_ev b 2 hb hl (by omega)
    refine Ev.congr (f := fun k => (spec_l4read.f k b ((2 : Nat) : Int)).bind fun bt447 => (if bt447.2 < 0 then (some (0, ([] : List (List Int)), false)) else ((spec_l4read.f k b bt447.2).bind fun bt449 => (if bt449.2 < 0 then (spec_l4lines.j0 k b bt447.1 bt449.1 bt449.2 true) else (spec_l4lines.j0 k b bt447.1 bt449.1 bt449.2 (decide (bt449.1 > 1000))))))) (fun k => by simp only [spec_l4lines.f]; rw [if_neg (by omega)]; rfl) (Ev.bind hr ?_)
    cases hq : rdNum 4 (b.drop 2) with
    | none =>
      refine Ev.congr (f := fun _ => some _) (fun k => ?_) (Ev.now _)
      have e1 : readV b.length (none : Option (Nat × List Int)) = (0, -1) := rfl
      rw [e1, if_pos (by decide)]
      rfl
    | some q =>
      obtain ⟨m, r⟩ := q
      obtain ⟨q1, mm, q2, q3, q4, q5⟩ := rdNum_some 4 (b.drop 2) m r (bytes_drop hb 2) hq
      rw [List.length_drop] at q4
      rw [List.drop_drop] at q5
      have hlr : r.length = b.length - (2 + mm) := by rw [q5, List.length_drop]
      have e1 : readV b.length (some (m, r)) = ((m : Int), ((2 + mm : Nat) : Int)) := by
        have hsub : b.length - r.length = 2 + mm := by omega
        unfold readV
        simp only
        rw [hsub]
      rw [e1, Option.bind_some]
      simp only
      have hr2 := read_ev b (2 + mm) hb hl (by omega)
      rw [← q5] at hr2
      refine Ev.congr (f := fun k => (spec_l4read.f k b ((2 + mm : Nat) : Int)).bind fun bt449 => (if bt449.2 < 0 then (spec_l4lines.j0 k b (m : Int) bt449.1 bt449.2 true) else (spec_l4lines.j0 k b (m : Int) bt449.1 bt449.2 (decide (bt449.1 > 1000))))) (fun k => by rw [if_neg (by omega)]) (Ev.bind hr2 ?_)
      have J0t : ∀ (x y z : Int), Ev (fun k => spec_l4lines.j0 k b x y z true) (0, [], false) := fun x y z => by
        refine Ev.step (f := fun _ => some _) (fun k => ?_) (Ev.now _)
        simp only [spec_l4lines.j0]
        rw [if_pos trivial]
      cases hq2 : rdNum 4 r with
      | none =>
        have e2 : readV b.length (none : Option (Nat × List Int)) = (0, -1) := rfl
        rw [e2]
        exact Ev.congr (fun k => if_pos (by decide)) (J0t _ _ _)
      | some p =>
        obtain ⟨n, r2⟩ := p
        obtain ⟨p1, m2, p2, p3, p4, p5⟩ := rdNum_some 4 r n r2 (by rw [q5]; exact bytes_drop hb _) hq2
        have p5' : r2 = b.drop (2 + mm + m2) := by rw [p5, q5, List.drop_drop]
        have hlr2 : r2.length = b.length - (2 + mm + m2) := by rw [p5', List.length_drop]
        have e2 : readV b.length (some (n, r2)) = ((n : Int), ((2 + mm + m2 : Nat) : Int)) := by
          have hsub : b.length - r2.length = 2 + mm + m2 := by omega
          unfold readV
          simp only
          rw [hsub]
        rw [e2, Option.bind_some]
        simp only
        by_cases hn : n ≤ 1000
        · rw [if_pos hn]
          have h0 := L0 (m : Int) n 0 n 0 (2 + mm + m2) [] hn (by omega) (by omega) rfl
          rw [← p5'] at h0
          refine Ev.congr (f := fun k => spec_l4lines.j0 k b (m : Int) (n : Int) ((2 + mm + m2 : Nat) : Int) false) (fun k => by rw [if_neg (by omega), decide_eq_false (by omega)]) (Ev.step (fun k => ?_) (f := fun k => spec_l4lines.l0 k b (m : Int) (n : Int) ((2 + mm + m2 : Nat) : Int) [] ((0 : Nat) : Int)) ?_)
          · simp only [spec_l4lines.j0]
            rw [if_neg (by simp)]
            rfl
          · cases hl3 : rdLines 4 n r2 with
            | none => rw [hl3] at h0; exact h0
            | some l => rw [hl3] at h0; exact h0
        · rw [if_neg hn]
          exact Ev.congr (fun k => by rw [if_neg (by omega), decide_eq_true (by omega)]) (J0t _ _ _)
theorem bytesOf_inj : ∀ (x y : List Int), (∀ v ∈ x, 0 ≤ v ∧ v ≤ 255) → (∀ v ∈ y, 0 ≤ v ∧ v ≤ 255) → Go.Lib.bytesOf x = Go.Lib.bytesOf y → x = y := by
  intro x
  induction x with
  | nil =>
    intro y _ _ h
    cases y with
    | nil => rfl
    | cons b t => cases h
  | cons a s ih =>
    intro y hx hy h
    cases y with
    | nil => cases h
    | cons b t =>
      have h' : UInt8.ofNat a.toNat :: Go.Lib.bytesOf s = UInt8.ofNat b.toNat :: Go.Lib.bytesOf t := h
      injection h' with h1 h2
      have ha := hx a (List.mem_cons_self ..)
      have hb := hy b (List.mem_cons_self ..)
      have h3 := congrArg UInt8.toNat h1
      rw [UInt8.toNat_ofNat', UInt8.toNat_ofNat'] at h3
      have : a = b := by omega
      rw [this, ih t (fun v hv => hx v (List.mem_cons_of_mem _ hv)) (fun v hv => hy v (List.mem_cons_of_mem _ hv)) h2]
theorem same_bytes (x y : List Int) (hx : ∀ v ∈ x, 0 ≤ v ∧ v ≤ 255) (hy : ∀ v ∈ y, 0 ≤ v ∧ v ≤ 255) : ((strOfNums x).toList == (strOfNums y).toList) = decide (x = y) := by
  rw [Go.Lib.strOfNums_toList, Go.Lib.strOfNums_toList]
  by_cases h : x = y
  · rw [decide_eq_true h, h]
    simp
  · rw [decide_eq_false h, beq_eq_false_iff_ne]
    exact fun e => h (bytesOf_inj x y hx hy e)
end Go.Proofs.YtmgmdnmfalepkaaGreat.PDec

namespace Go.Proofs.YtmgmdnmfalepkaaGreat.DecA
open Go.RowKit Go.Proofs.YtmgmdnmfalepkaaGreatW.PrintWords Go.Proofs.YtmgmdnmfalepkaaGreatW.PrintMore Go.Proofs.YtmgmdnmfalepkaaGreat.Kit Go.Proofs.YtmgmdnmfalepkaaGreat.PKit Go.Proofs.YtmgmdnmfalepkaaGreat.Ty Go.Proofs.YtmgmdnmfalepkaaGreat.PDec Go.Proofs.YtmgmdnmfalepkaaGreat.Build Go.Proofs.YtmgmdnmfalepkaaGreat.HelpBB
set_option linter.unusedVariables false
def St (w0 w : World) (g : Nat) (r : List Int) (bad : Bool) (f2 f3 : Value) : Prop :=
  w0.heap.size ≤ g ∧ Below w0.heap.size w0 w ∧ ∃ A c, w.heap[g]? = some (.cells #[.slice A r.length c, .bool bad, f2, f3] 114 (0, 0)) ∧ Kd.C (Kd.int .u8) w0 A r.length r ∧ r.length ≤ c
theorem St.below {w0 w W : World} {g : Nat} {r : List Int} {bad : Bool} {f2 f3 : Value} (h : St w0 w g r bad f2 f3) (hb : Below w.heap.size w W) : St w0 W g r bad f2 f3 := by
  obtain ⟨h1, h2, A, c, h3, h4, h5⟩ := h
  exact ⟨h1, below_step h2 hb, A, c, blk_below h3 hb, h4, h5⟩
theorem St.cell {w0 w : World} {g : Nat} {r : List Int} {bad : Bool} {f2 f3 : Value} (h : St w0 w g r bad f2 f3) : w.cell? ⟨g, 1, none⟩ = some (.bool bad) ∧ w.frozen? ⟨g, 1, none⟩ = false ∧ w.cell? ⟨g, 2, none⟩ = some f2 ∧ w.frozen? ⟨g, 2, none⟩ = false ∧ w.cell? ⟨g, 3, none⟩ = some f3 ∧ w.frozen? ⟨g, 3, none⟩ = false := by
  obtain ⟨h1, h2, A, c, h3, h4, h5⟩ := h
  exact ⟨(blk_cell h3 1).trans rfl, blk_frozen h3 1, (blk_cell h3 2).trans rfl, blk_frozen h3 2, (blk_cell h3 3).trans rfl, blk_frozen h3 3⟩
theorem St.put2 {w0 w : World} {g : Nat} {r : List Int} {bad : Bool} {f2 f3 : Value} (h : St w0 w g r bad f2 f3) (u : Value) : St w0 (w.setCell ⟨g, 2, none⟩ u) g r bad u f3 := by
  obtain ⟨h1, h2, A, c, h3, h4, h5⟩ := h
  exact ⟨h1, below_set h2 h1, A, c, blk_put (cs := #[.slice A r.length c, .bool bad, f2, f3]) h3 2 _ rfl, h4, h5⟩
theorem St.put3 {w0 w : World} {g : Nat} {r : List Int} {bad : Bool} {f2 f3 : Value} (h : St w0 w g r bad f2 f3) (u : Value) : St w0 (w.setCell ⟨g, 3, none⟩ u) g r bad f2 u := by
  obtain ⟨h1, h2, A, c, h3, h4, h5⟩ := h
  exact ⟨h1, below_set h2 h1, A, c, blk_put (cs := #[.slice A r.length c, .bool bad, f2, f3]) h3 3 _ rfl, h4, h5⟩
theorem St.lt {w0 w : World} {g : Nat} {r : List Int} {bad : Bool} {f2 f3 : Value} (h : St w0 w g r bad f2 f3) : g < w.heap.size := by
  obtain ⟨h1, h2, A, c, h3, h4, h5⟩ := h
  exact blk_lt h3
theorem St.grown {w0 w w1 : World} {g : Nat} {r : List Int} {bad : Bool} {f2 f3 : Value} (h : St w0 w g r bad f2 f3) (hg : w.grownBy w1 f3.ownBlock) (hne : f3.ownBlock ≠ some g) (hB : Below w0.heap.size w0 w1) : St w0 w1 g r bad f2 f3 := by
  obtain ⟨h1, h2, A, c, h3, h4, h5⟩ := h
  exact ⟨h1, hB, A, c, blk_grown h3 hg (fun e => hne e.symm), h4, h5⟩
def numS (r : List Int) (bad : Bool) : Nat × List Int × Bool := match rdNum 5 r with
  | some q => (q.1, q.2, bad)
  | none => (0, r, true)
def takeS (n : Nat) (r : List Int) (bad : Bool) : List Int × List Int × Bool := if n ≤ r.length then (r.take n, r.drop n, bad) else ([], r, true)
theorem or_add (v x k : Nat) (hv : v < 2 ^ k) (hx : x < 128) (hk : k ≤ 28) : Go.bits .or .i64 (v : Int) ((x * 2 ^ k : Nat) : Int) = ((v + x * 2 ^ k : Nat) : Int) := by
  have hp : 2 ^ k ≤ 2 ^ 28 := Nat.pow_le_pow_right (by decide) hk
  have hm : x * 2 ^ k ≤ 127 * 2 ^ 28 := Nat.mul_le_mul (by omega) hp
  have hp' : 2 ^ 28 = 268435456 := by decide
  have h1 : (BitVec.ofInt 64 (v : Int)).toNat = v := by
    rw [BitVec.ofInt_natCast, BitVec.toNat_ofNat]; exact Nat.mod_eq_of_lt (by omega)
  have h2 : (BitVec.ofInt 64 ((x * 2 ^ k : Nat) : Int)).toNat = x * 2 ^ k := by
    rw [BitVec.ofInt_natCast, BitVec.toNat_ofNat]; exact Nat.mod_eq_of_lt (by omega)
  have h3 : v ||| x * 2 ^ k = v + x * 2 ^ k := by
    have := Nat.two_pow_add_eq_or_of_lt hv x
    rw [Nat.or_comm, Nat.mul_comm x, ← this]
    omega
  show IntKind.i64.wrap ((BitVec.ofInt 64 (v : Int) ||| BitVec.ofInt 64 ((x * 2 ^ k : Nat) : Int)).toNat : Int) = _
  rw [BitVec.toNat_or, h1, h2, h3, IntKind.wrap_i64]
  omega
theorem rdNum_cons (k : Nat) (c : Int) (r : List Int) : rdNum (k + 1) (c :: r) = if c < 128 then some (c.toNat, r) else (rdNum k r).map fun q => (c.toNat % 128 + 128 * q.1, q.2) := rfl
theorem rdNum_nil (k : Nat) : rdNum k [] = none := by cases k <;> rfl
theorem getD_get' (l : List Int) (i : Nat) (h : i < l.length) : l.getD i 0 = l[i] := by simp [List.getD, List.getElem?_eq_getElem h]
theorem and127 (x : Int) (h0 : 0 ≤ x) (h1 : x ≤ 255) : Go.bits .and .u8 x 127 = ((x.toNat % 128 : Nat) : Int) := by
  have key : ∀ m : Fin 256, Go.bits .and .u8 ((m.val : Nat) : Int) 127 = ((m.val % 128 : Nat) : Int) := by decide +kernel
  have := key ⟨x.toNat, by omega⟩
  simp only [Int.toNat_of_nonneg h0] at this
  exact this
theorem step_val (v i : Nat) (x : Int) (hv : v < 2 ^ (7 * i)) (hi : i < 5) (h0 : 0 ≤ x) (h1 : x ≤ 255) :
    Go.bits .or .i64 (v : Int) (wrap64 (wrap64 (Go.bits .and .u8 x 127) * 2 ^ (7 * i))) = ((v + x.toNat % 128 * 2 ^ (7 * i) : Nat) : Int) := by
  have hm : x.toNat % 128 < 128 := Nat.mod_lt _ (by decide)
  have hk : 7 * i ≤ 28 := by omega
  rw [and127 x h0 h1]
  generalize x.toNat % 128 = m at hm
  generalize 7 * i = k at hv hk
  have hp : 2 ^ k ≤ 268435456 := Nat.le_trans (Nat.pow_le_pow_right (by decide) hk) (by decide)
  have e1 : wrap64 (m : Int) = (m : Int) := wrap_in (by omega)
  have e2 : (m : Int) * 2 ^ k = ((m * 2 ^ k : Nat) : Int) := by rw [Int.natCast_mul, Int.natCast_pow]; rfl
  have hmul : m * 2 ^ k ≤ 127 * 268435456 := Nat.mul_le_mul (by omega) hp
  rw [e1, e2, wrap_in (by omega)]
  exact or_add v m k hv hm hk
theorem St.cut {w0 w : World} {g : Nat} {A : Option Addr} {c : Nat} {r : List Int} {bad : Bool} {f2 f3 : Value} (hg : w0.heap.size ≤ g) (hB : Below w0.heap.size w0 w) (hk : w.heap[g]? = some (.cells #[.slice A r.length c, .bool bad, f2, f3] 114 (0, 0))) (hC : Kd.C (Kd.int .u8) w0 A r.length r) (hc : r.length ≤ c) (m : Nat) (hm : m ≤ r.length) (A' : Option Addr) (n' c' : Nat) (hA : A' = if c = m then A else A.map (·.add m)) (hn' : n' = r.length - m) (hc' : c' = c - m) :
    St w0 (w.setCell ⟨g, 0, none⟩ (.slice A' n' c')) g (r.drop m) bad f2 f3 := by
  subst hn' hc'
  have hd := Kd.C_drop (c := c) hC hm hc
  have e : (Kd.int .u8 : Kd Int).sz = 1 := rfl
  rw [e, Nat.mul_one, ← hA] at hd
  refine ⟨hg, below_set hB hg, A', c - m, ?_, hd, by rw [List.length_drop]; omega⟩
  refine blk_put (cs := #[.slice A r.length c, .bool bad, f2, f3]) hk 0 _ ?_
  rw [List.length_drop]
  rfl
theorem kept_set (w : World) (g o : Nat) (u : Value) : Kept w (w.setCell ⟨g, o, none⟩ u) (fun k => k = g) := Kept.setCell (S := fun k => k = g) (p := ⟨g, o, none⟩) (Kept.refl w _) (.inl rfl) u
set_option maxRecDepth 100000 in
set_option maxHeartbeats 4000000 in
theorem number_calls (g : Nat) (r : List Int) (bad : Bool) (f2 f3 : Value) (w0 w : World) (hS : St w0 w g r bad f2 f3) (hb : ∀ x ∈ r, 0 ≤ x ∧ x ≤ 255) (hl : r.length ≤ 1048576) :
    Calls Tryz.prog 108 #[.pointer (some ⟨g, 0, none⟩)] w fun e w' => e = .returned (.int .i64 ((numS r bad).1 : Int)) ∧ St w0 w' g (numS r bad).2.1 (numS r bad).2.2 f2 f3 ∧ Kept w w' (fun k => k = g) := by
  obtain ⟨hg0, hB, A, c, hb0, hC, hc⟩ := hS
  have HB := Aside0.mk hB
  have HK := Aside0.mk hb0
  have HC := Aside0.mk hC
  have HY := Aside0.mk hb
  have h0 : w.cell? ⟨g, 0, none⟩ = some (.slice A r.length c) := (blk_cell hb0 0).trans rfl
  have f0 := blk_frozen hb0 0
  have h1 : w.cell? ⟨g, 1, none⟩ = some (.bool bad) := (blk_cell hb0 1).trans rfl
  have f1 := blk_frozen hb0 1
  clear hB hb0 hC hb
  go_enter Tryz.func108, Tryz.ntmps108
  go_wp2
  go_loopg [3, 11] 5 (fun gg s3 s11 wr => ∃ i v : Nat, i ≤ 5 ∧ i ≤ r.length ∧ 5 - i ≤ gg ∧ s3 = .int .i64 (v : Int) ∧ s11 = .int .i64 (i : Int) ∧ v < 2 ^ (7 * i) ∧ Aside0 (rdNum 5 r = (rdNum (5 - i) (r.drop i)).map fun q => (v + 2 ^ (7 * i) * q.1, q.2)) ∧ wr = w)
  case atStart => exact ⟨0, 0, by omega, by omega, by omega, rfl, rfl, by decide, ⟨by cases h : rdNum 5 r <;> simp [h]⟩, rfl⟩
  case round =>
    obtain ⟨i, v, hi5, hi, hg, rfl, rfl, hv, HR, rfl⟩ := hrel
    by_cases hlt : i < r.length
    · have hltz : (i : Int) < (r.length : Int) := by omega
      obtain ⟨ad, hA, _⟩ := HC.out.2.2 (by omega)
      subst hA
      have hcell : wr.cell? (ad.add i) = some (.int .u8 (r.getD i 0)) := pw_cell_below HB.out (cellB HC.out i hlt)
      obtain ⟨c0, c1⟩ := HY.out (r.getD i 0) (by rw [getD_get' r i hlt]; exact List.getElem_mem hlt)
      have HD := Aside0.mk (getD_drop r i hlt)
      generalize r.getD i 0 = x at hcell c0 c1 HD
      by_cases h5 : i = 5
      · subst h5
        have HN := Aside0.mk (show numS r bad = (0, r, true) from by
          unfold numS
          rw [HR.out]
          rfl)
        have hcell5 : wr.cell? ⟨ad.block, ad.off + 5, none⟩ = some (.int .u8 x) := hcell
        have hlt5 : (5 : Int) < (r.length : Int) := by omega
        go_wp2
        go_ret
        rw [HN.out]
        exact ⟨rfl, ⟨hg0, below_set HB.out hg0, some ad, c, blk_put (cs := #[.slice (some ad) r.length c, .bool bad, f2, f3]) HK.out 1 _ rfl, HC.out, hc⟩, kept_set _ _ _ _⟩
      · have h5z : ¬ (i : Int) = 5 := by omega
        have e5 : 5 - i = (4 - i) + 1 := by omega
        have HV := Aside0.mk (step_val v i x hv (by omega) c0 c1)
        by_cases h128 : x < 128
        · have HN := Aside0.mk (show numS r bad = (v + x.toNat % 128 * 2 ^ (7 * i), r.drop (i + 1), bad) from by
            have hr := HR.out
            rw [e5, HD.out, rdNum_cons, if_pos h128, Option.map_some] at hr
            unfold numS
            rw [hr]
            have : x.toNat % 128 = x.toNat := Nat.mod_eq_of_lt (by omega)
            simp only [this, Nat.mul_comm])
          have HS := Aside0.mk (St.cut hg0 HB.out HK.out HC.out hc (i + 1) (by omega))
          by_cases hcm : c = i + 1
          · subst hcm
            go_wp2
            go_ret
            rw [HN.out]
            exact ⟨congrArg (fun z => Ending.returned (.int .i64 z)) HV.out, HS.out _ 0 0 (by simp) (by omega) (Nat.sub_self _).symm, kept_set _ _ _ _⟩
          · go_wp2
            go_ret
            rw [HN.out]
            exact ⟨congrArg (fun z => Ending.returned (.int .i64 z)) HV.out, HS.out _ _ _ (if_neg hcm).symm rfl rfl, kept_set _ _ _ _⟩
        · have hr := HR.out
          rw [e5, HD.out, rdNum_cons, if_neg h128, Option.map_map] at hr
          have HR2 := Aside0.mk hr
          clear hr
          have hp : 2 ^ (7 * (i + 1)) = 2 ^ (7 * i) * 128 := by rw [show 7 * (i + 1) = 7 * i + 7 by omega, Nat.pow_add]
          have HP := Aside0.mk hp
          clear hp
          go_wp2
          go_roundg (5 - (i + 1))
          case measure => omega
          case rel =>
            refine ⟨i + 1, v + x.toNat % 128 * 2 ^ (7 * i), by omega, by omega, by omega, ?_, by go_num, ?_, ⟨?_⟩, rfl⟩
            · rw [HV.out]
            · rw [HP.out]
              have : x.toNat % 128 * 2 ^ (7 * i) ≤ 127 * 2 ^ (7 * i) := Nat.mul_le_mul_right _ (by omega)
              omega
            · rw [HR2.out, show 5 - (i + 1) = 4 - i by omega, HP.out]
              refine congrArg (fun f => Option.map f _) (funext fun q => ?_)
              simp only [Function.comp]
              rw [Nat.mul_add, ← Nat.mul_assoc, Nat.mul_comm (x.toNat % 128), Nat.add_assoc]
    · have hltz : ¬ (i : Int) < (r.length : Int) := by omega
      have HN := Aside0.mk (show numS r bad = (0, r, true) from by
        have hr := HR.out
        rw [List.drop_of_length_le (by omega), rdNum_nil] at hr
        unfold numS
        rw [hr]
        rfl)
      go_wp2
      go_ret
      rw [HN.out]
      exact ⟨rfl, ⟨hg0, below_set HB.out hg0, A, c, blk_put (cs := #[.slice A r.length c, .bool bad, f2, f3]) HK.out 1 _ rfl, HC.out, hc⟩, kept_set _ _ _ _⟩
set_option maxRecDepth 100000 in
set_option maxHeartbeats 4000000 in
theorem take_calls (g n : Nat) (r : List Int) (bad : Bool) (f2 f3 : Value) (w0 w : World) (hS : St w0 w g r bad f2 f3) (hl : r.length ≤ 1048576) :
    Calls Tryz.prog 107 #[.pointer (some ⟨g, 0, none⟩), .int .i64 (n : Int)] w fun e w' => (∃ v, e = .returned v ∧ HelpB.tB.K w0 (takeS n r bad).1 v) ∧ St w0 w' g (takeS n r bad).2.1 (takeS n r bad).2.2 f2 f3 ∧ Kept w w' (fun k => k = g) := by
  obtain ⟨hg0, hB, A, c, hb0, hC, hc⟩ := hS
  have HB := Aside0.mk hB
  have HK := Aside0.mk hb0
  have HC := Aside0.mk hC
  have h0 : w.cell? ⟨g, 0, none⟩ = some (.slice A r.length c) := (blk_cell hb0 0).trans rfl
  have f0 := blk_frozen hb0 0
  have h1 : w.cell? ⟨g, 1, none⟩ = some (.bool bad) := (blk_cell hb0 1).trans rfl
  have f1 := blk_frozen hb0 1
  clear hB hb0 hC
  by_cases hn : n ≤ r.length
  · have hz : ¬ ((n : Int) > (r.length : Int)) := by omega
    have HN := Aside0.mk (show takeS n r bad = (r.take n, r.drop n, bad) from if_pos hn)
    have HS := Aside0.mk (St.cut hg0 HB.out HK.out HC.out hc n hn)
    have HT := Aside0.mk (show HelpB.tB.K w0 (r.take n) (.slice A n c) from ⟨A, c, by rw [List.length_take, Nat.min_eq_left hn], by rw [List.length_take]; omega, by have := Kd.C_take HC.out hn; exact this⟩)
    by_cases hcm : c = n
    · subst hcm
      go_enter Tryz.func107, Tryz.ntmps107
      go_wp2
      go_ret
      rw [HN.out]
      exact ⟨⟨_, rfl, HT.out⟩, HS.out _ 0 0 (by simp) (by omega) (Nat.sub_self _).symm, kept_set _ _ _ _⟩
    · go_enter Tryz.func107, Tryz.ntmps107
      go_wp2
      go_ret
      rw [HN.out]
      exact ⟨⟨_, rfl, HT.out⟩, HS.out _ _ _ (if_neg hcm).symm rfl rfl, kept_set _ _ _ _⟩
  · have hz : (n : Int) > (r.length : Int) := by omega
    have HN := Aside0.mk (show takeS n r bad = ([], r, true) from if_neg hn)
    go_enter Tryz.func107, Tryz.ntmps107
    go_wp2
    go_ret
    rw [HN.out]
    exact ⟨⟨_, rfl, none, 0, rfl, Nat.le_refl _, Kd.C_nil _ _⟩, ⟨hg0, below_set HB.out hg0, A, c, blk_put (cs := #[.slice A r.length c, .bool bad, f2, f3]) HK.out 1 _ rfl, HC.out, hc⟩, kept_set _ _ _ _⟩
end Go.Proofs.YtmgmdnmfalepkaaGreat.DecA
