/- Parts of the proof (see the row's own text): StoK, Rep, Ldec, PDecS. -/
import Derived.Test.YtmgmdnmfalepkaaGreatG00
import Derived.Test.YtmgmdnmfalepkaaGreatG11
import Derived.Test.YtmgmdnmfalepkaaGreatG5
import Derived.Test.YtmgmdnmfalepkaaGreatG12
import Derived.Test.YtmgmdnmfalepkaaGreatG4
import Derived.Test.YtmgmdnmfalepkaaGreatG7
import Derived.Test.YtmgmdnmfalepkaaGreatG8
import Derived.Test.YtmgmdnmfalepkaaGreatG10
import Derived.Lib.Bytes
namespace Go.Proofs.YtmgmdnmfalepkaaGreat.Sto
open Go.RowKit Go.Proofs.YtmgmdnmfalepkaaGreatW.PrintWords Go.Proofs.YtmgmdnmfalepkaaGreatW.PrintMore Go.Proofs.YtmgmdnmfalepkaaGreat.Kit Go.Proofs.YtmgmdnmfalepkaaGreat.PKit Go.Proofs.YtmgmdnmfalepkaaGreat.Ty Go.Proofs.YtmgmdnmfalepkaaGreat.PSeg Go.Proofs.YtmgmdnmfalepkaaGreat.PEnc Go.Proofs.YtmgmdnmfalepkaaGreat.PDec Go.Proofs.YtmgmdnmfalepkaaGreat.PSta Go.Proofs.YtmgmdnmfalepkaaGreat.HelpBB Go.Proofs.YtmgmdnmfalepkaaGreat.HelpSeg
open Go.Proofs.YtmgmdnmfalepkaaGreat.Build hiding code ans
set_option linter.unusedVariables false
set_option linter.unusedSimpArgs false
theorem cells2 {w : World} {g : Nat} {t : TypeId} {a0 a1 : Value} (h : w.heap[g]? = some (.cells #[a0, a1] t (0, 0))) : (w.cell? ⟨g, 0, none⟩ = some a0 ∧ w.frozen? ⟨g, 0, none⟩ = false) ∧ (w.cell? ⟨g, 1, none⟩ = some a1 ∧ w.frozen? ⟨g, 1, none⟩ = false) := ⟨⟨(blk_cell h 0).trans rfl, blk_frozen h 0⟩, ⟨(blk_cell h 1).trans rfl, blk_frozen h 1⟩⟩
theorem cells4 {w : World} {g : Nat} {t : TypeId} {a0 a1 a2 a3 : Value} (h : w.heap[g]? = some (.cells #[a0, a1, a2, a3] t (0, 0))) : (w.cell? ⟨g, 0, none⟩ = some a0 ∧ w.frozen? ⟨g, 0, none⟩ = false) ∧ (w.cell? ⟨g, 1, none⟩ = some a1 ∧ w.frozen? ⟨g, 1, none⟩ = false) ∧ (w.cell? ⟨g, 2, none⟩ = some a2 ∧ w.frozen? ⟨g, 2, none⟩ = false) ∧ (w.cell? ⟨g, 3, none⟩ = some a3 ∧ w.frozen? ⟨g, 3, none⟩ = false) := ⟨⟨(blk_cell h 0).trans rfl, blk_frozen h 0⟩, ⟨(blk_cell h 1).trans rfl, blk_frozen h 1⟩, ⟨(blk_cell h 2).trans rfl, blk_frozen h 2⟩, ⟨(blk_cell h 3).trans rfl, blk_frozen h 3⟩⟩
def zS : SegT := (0, [], [], [])
def kSeg : Kd SegT := Kd.pair (Kd.int .i64) (Kd.pair (Kd.slice 25 kB) (Kd.pair (Kd.slice 3 (Kd.int .i64)) (Kd.slice 56 HelpII.kI)))
theorem kSeg_open {w : World} {x : SegT} {cs : List Value} (h : kSeg.K w x cs) : ∃ (A1 : Option Addr) (c1 : Nat) (A2 : Option Addr) (c2 : Nat) (A3 : Option Addr) (c3 : Nat), cs = [.int .i64 x.1, .slice A1 x.2.1.length c1, .slice A2 x.2.2.1.length c2, .slice A3 x.2.2.2.length c3] ∧ tSeg.K w x (.agg #[.int .i64 x.1, .slice A1 x.2.1.length c1, .slice A2 x.2.2.1.length c2, .slice A3 x.2.2.2.length c3]) := by
 obtain ⟨_, _, rfl, rfl, ⟨_, _, rfl, ⟨A1, c1, rfl, l1, g1⟩, ⟨_, _, rfl, ⟨A2, c2, rfl, l2, g2⟩, ⟨A3, c3, rfl, l3, g3⟩⟩⟩⟩ := h
 exact ⟨A1, c1, A2, c2, A3, c3, rfl, [_, _, _, _], rfl, _, _, rfl, rfl, _, _, rfl, ⟨A1, c1, rfl, l1, g1⟩, _, _, rfl, ⟨A2, c2, rfl, l2, g2⟩, _, rfl, ⟨A3, c3, rfl, l3, g3⟩⟩
theorem kSeg_mk {w : World} {base : Nat} {ok : Nat → Prop} {x : SegT} {v : Value} (h : tSeg.M w base ok x v) : ∃ (A1 : Option Addr) (c1 : Nat) (A2 : Option Addr) (c2 : Nat) (A3 : Option Addr) (c3 : Nat), v = .agg #[.int .i64 x.1, .slice A1 x.2.1.length c1, .slice A2 x.2.2.1.length c2, .slice A3 x.2.2.2.length c3] ∧ kSeg.M w base ok x [.int .i64 x.1, .slice A1 x.2.1.length c1, .slice A2 x.2.2.1.length c2, .slice A3 x.2.2.2.length c3] := by
 obtain ⟨l, rfl, v0, r0, o1, o2, rfl, h1, h2, rfl, v1, r1, o3, o4, rfl, h3, h4, m1, v2, r2, o5, o6, rfl, h5, h6, m2, v3, rfl, m3⟩ := h
 obtain ⟨A1, c1, rfl⟩ := Kd.S_slice m1
 obtain ⟨A2, c2, rfl⟩ := Kd.R_slice m2
 obtain ⟨A3, c3, rfl⟩ := Kd.S_slice m3
 exact ⟨A1, c1, A2, c2, A3, c3, rfl, [_], [_, _, _], rfl, rfl, [_], [_, _], rfl, ⟨_, rfl, Kd.R_mono (Kd.S_R m1) (fun k hk => (h2 k (h3 k hk)).1)⟩, [_], [_], rfl, ⟨_, rfl, Kd.R_mono m2 (fun k hk => (h2 k (h4 k (h5 k hk)).1).1)⟩, ⟨_, rfl, Kd.R_mono (Kd.S_R m3) (fun k hk => (h2 k (h4 k (h6 k hk).1).1).1)⟩⟩
theorem at_seg {w : World} {A : Option Addr} {n : Nat} {xs : List SegT} (h : Kd.C kSeg w A n xs) (i : Nat) (hi : i < n) : ∃ (ad : Addr) (A1 : Option Addr) (c1 : Nat) (A2 : Option Addr) (c2 : Nat) (A3 : Option Addr) (c3 : Nat), A = some ad ∧ (w.cell? (ad.add (i * 4)) = some (.int .i64 (xs.getD i zS).1) ∧
  w.cell? ⟨(ad.add (i * 4)).block, (ad.add (i * 4)).off + 1, none⟩ = some (.slice A1 (xs.getD i zS).2.1.length c1) ∧
  w.cell? ⟨(ad.add (i * 4)).block, (ad.add (i * 4)).off + 2, none⟩ = some (.slice A2 (xs.getD i zS).2.2.1.length c2) ∧
  w.cell? ⟨(ad.add (i * 4)).block, (ad.add (i * 4)).off + 3, none⟩ = some (.slice A3 (xs.getD i zS).2.2.2.length c3)) ∧ tSeg.K w (xs.getD i zS) (.agg #[.int .i64 (xs.getD i zS).1, .slice A1 (xs.getD i zS).2.1.length c1, .slice A2 (xs.getD i zS).2.2.1.length c2, .slice A3 (xs.getD i zS).2.2.2.length c3]) := by
 obtain ⟨ad, c, e, _, hK, hc0⟩ := Kd.C_get h zS (i : Int) zq1 zq1
 rw [Int.toNat_natCast] at hK hc0
 have hc : ∀ j u, c[j]? = some u → w.cell? (ad.add (i * 4 + j)) = some u := hc0
 obtain ⟨A1, c1, A2, c2, A3, c3, rfl, hT⟩ := kSeg_open hK
 exact ⟨ad, A1, c1, A2, c2, A3, c3, e, ⟨hc 0 _ rfl, by rw [← add_field _ _ 1 zq1]; exact hc 1 _ rfl, by rw [← add_field _ _ 2 zq1]; exact hc 2 _ rfl, by rw [← add_field _ _ 3 zq1]; exact hc 3 _ rfl⟩, hT⟩
theorem cells_later {w W : World} {p : Addr} {u0 u1 u2 u3 : Value} (hb : Below w.heap.size w W) (h : w.cell? p = some u0 ∧ w.cell? ⟨p.block, p.off + 1, none⟩ = some u1 ∧ w.cell? ⟨p.block, p.off + 2, none⟩ = some u2 ∧ w.cell? ⟨p.block, p.off + 3, none⟩ = some u3) : W.cell? p = some u0 ∧ W.cell? ⟨p.block, p.off + 1, none⟩ = some u1 ∧ W.cell? ⟨p.block, p.off + 2, none⟩ = some u2 ∧ W.cell? ⟨p.block, p.off + 3, none⟩ = some u3 :=
 have hl := World.block_lt_of_cell? w _ h.1
 ⟨(hb.cell hl).trans h.1, (hb.cell (p := ⟨p.block, p.off + 1, none⟩) hl).trans h.2.1, (hb.cell (p := ⟨p.block, p.off + 2, none⟩) hl).trans h.2.2.1, (hb.cell (p := ⟨p.block, p.off + 3, none⟩) hl).trans h.2.2.2⟩
theorem seg_snoc (ss : List SegT) (i : Nat) (hi : i < ss.length) : ss.take (i + 1) = ss.take i ++ [ss.getD i zS] := by
 rw [List.take_succ_eq_append_getElem hi]; simp [List.getD, List.getElem?_eq_getElem hi]
theorem nlin_one (s : SegT) : nlin [s] = s.2.1.length := by simp [nlin]
theorem tots_one (s : SegT) : tots [s] = totalB s.2.1 := by simp [tots]
theorem nlin_take (ss : List SegT) (i : Nat) : nlin (ss.take i) ≤ nlin ss := by
 have h := nlin_append (ss.take i) (ss.drop i)
 rw [List.take_append_drop] at h
 omega
theorem tots_take (ss : List SegT) (i : Nat) : tots (ss.take i) ≤ tots ss := by
 have h := tots_append (ss.take i) (ss.drop i)
 rw [List.take_append_drop] at h
 omega
def Good (s : SegT) : Prop := s = seg s.1 s.2.1 ∧ fits s.1 s.2.1 = true ∧ Bytes s.2.1
theorem infoSeg : (Tryz.prog.info? 59).map (fun i => (i.zero, i.size, i.bytes)) = some (some (.agg #[.int .i64 0, .slice none 0 0, .slice none 0 0, .slice none 0 0]), 4, 80) := by kernel_rfl
end Go.Proofs.YtmgmdnmfalepkaaGreat.Sto

namespace Go.Proofs.YtmgmdnmfalepkaaGreat.Rep
open Go Go.RowKit Go.Proofs.YtmgmdnmfalepkaaGreatW.PrintWords Go.Proofs.YtmgmdnmfalepkaaGreatW.PrintMore Go.Proofs.YtmgmdnmfalepkaaGreat.Kit Go.Proofs.YtmgmdnmfalepkaaGreat.Sto Go.Proofs.YtmgmdnmfalepkaaGreat.PSeg Go.Proofs.YtmgmdnmfalepkaaGreat.PSta
set_option linter.unusedVariables false
set_option linter.unusedSimpArgs false
def zc : List Value := [.int .i64 0, .slice none 0 0, .slice none 0 0, .slice none 0 0]
theorem zc_one : ∀ v ∈ zc, v.oneCell' = true := by decide
theorem zeroS : ∀ w, (zeroValue 59).run Tryz.prog w = .ok (.agg #[.int .i64 0, .slice none 0 0, .slice none 0 0, .slice none 0 0]) w := fun w => by
 have h := Tryz.zeroValue59
 exact h w
theorem one_of_zero : (Builtin.zeroCells (Value.agg #[.int .i64 0, .slice none 0 0, .slice none 0 0, .slice none 0 0]).cells 1).toList = zc := by first | kernel_rfl | (simp [Builtin.zeroCells, zc, Value.cells]; done) | (simp [Builtin.zeroCells, zc, Value.cells]; rfl) | decide
theorem one_of (q : Nat) (h : q = 1) : (Builtin.zeroCells (Value.agg #[.int .i64 0, .slice none 0 0, .slice none 0 0, .slice none 0 0]).cells q).toList = zc := by subst h; exact one_of_zero
theorem splice_take {α : Type} (L : List α) (off : Nat) (cs : List α) (m : Nat) (h : off + cs.length ≤ L.length) (hm : m ≤ off) : (splice L off cs).take m = L.take m := by
 unfold splice
 rw [List.take_append_of_le_length zq39, List.take_take, Nat.min_eq_left hm]
theorem splice_to {α : Type} (L : List α) (off : Nat) (cs : List α) (h : off + cs.length ≤ L.length) : (splice L off cs).take (off + cs.length) = L.take off ++ cs := by
 unfold splice
 rw [← List.append_assoc, List.take_append_of_le_length (by rw [List.length_append, List.length_take]; omega)]
 exact List.take_of_length_le (by rw [List.length_append, List.length_take]; omega)
theorem splice_drop {α : Type} (L : List α) (off : Nat) (cs : List α) (m : Nat) (h : off + cs.length ≤ L.length) (hm : off + cs.length ≤ m) : (splice L off cs).drop m = L.drop m := by
 unfold splice
 rw [← List.append_assoc, List.drop_append, List.drop_of_length_le (by rw [List.length_append, List.length_take]; omega), List.nil_append, List.drop_drop, List.length_append, List.length_take]
 congr 1
 omega
set_option maxRecDepth 100000 in
set_option maxHeartbeats 8000000 in
theorem replace_end (g c n k : Nat) (cur : List Value) (hk : k + 2 = n) (hn : n ≤ c) (hc : c ≤ 9223372036854775807 ∧ n ≤ 1099511627776) (hlen : cur.length = c * 4) (b : Nat) (x : List Value) (hx : x.length = 4) (hxo : ∀ v ∈ x, v.oneCell' = true) (w : World) (hg : w.heap[g]? = some (.cells cur.toArray 59 (0, 0))) (hb : w.heap[b]? = some (.cells x.toArray 59 (0, 0))) (B : Nat) (w0 : World) (hB : Below B w0 w) (hBg : B ≤ g) :
  Calls Tryz.prog 62 #[.slice (some ⟨g, 0, none⟩) n c, .int .i64 (k : Int), .int .i64 ((k : Int) + 2), .slice (some ⟨b, 0, none⟩) 1 1] w fun e w' => ∃ cur' : List Value, e = .returned (.slice (some ⟨g, 0, none⟩) (n - 1) c) ∧ w'.heap[g]? = some (.cells cur'.toArray 59 (0, 0)) ∧ cur'.length = c * 4 ∧ cur'.take ((n - 1) * 4) = cur.take (k * 4) ++ x ∧ Below B w0 w' ∧ Kept w w' (fun q => q = g) := by
 have h1 : ¬ c = k := by omega
 have h2 : ¬ c = k + 1 := by omega
 have hkz : (k : Int) + 2 ≤ (n : Int) := by omega
 have hke : ((k : Int) + 2 == (n : Int)) = true := by simp; omega
 have hkf : ((k : Int) == (k : Int) + 2) = false := by simp; omega
 have HG := zA hg
 have HX := zA hb
 have HB := zA hB
 have HL := zA hlen
 obtain ⟨i0, hi, hz⟩ := Option.map_eq_some_iff.1 infoSeg
 have hsz : i0.size = 4 := by simp only [Prod.mk.injEq] at hz; exact hz.2.1
 have HI := zA hi
 have HSZ := zA hsz
 clear hg hb hB hlen hi hz hsz
 go_enter Tryz.func62, Tryz.ntmps62
 have hxr : ∀ j u, x[j]? = some u → w.cell? ((⟨b, 0, none⟩ : Addr).add j) = some u := fun j u hj => by
  have hadd : (⟨b, 0, none⟩ : Addr).add j = ⟨b, j, none⟩ := by unfold Addr.add; split <;> simp_all
  rw [hadd]
  have hjl : j < x.length := (List.getElem?_eq_some_iff.1 hj).1
  rw [blk_cell HX.out j]
  simpa using hj
 have HXR := zA hxr
 clear hxr
 go_wp2_with (first | (at_builtin; refine wpList_append_place rfl (.tmp 32) (.tmp 33) 44 59 rfl i0 Tryz.underlying44 HI.out 4 HSZ.out g k c rfl cur HG.out ⟨b, 0, none⟩ 1 1 rfl x (by rw [hx]) HXR.out hxo zq1 (by rw [HL.out]; omega) B w0 HB.out hBg ?_; intro w1 hw1; obtain ⟨hr1, hB1, hK1⟩ := hw1; have HR1 := zA hr1; have HB1 := zA hB1; have HK1 := zA hK1; clear hr1 hB1 hK1) | ((with_reducible refine wpList_clear_rows rfl (.tmp 43) 44 rfl 59 _ zc Tryz.underlying44 zeroS g ((k + 1) * 4) _ _ ?hn rfl ?hz (splice cur (k * 4) x) 59 HR1.out ?hf zc_one B w0 HB1.out hBg ?_); (case hn => omega); (case hz => (rw [show n - (k + 1) = 1 from by omega]; exact one_of_zero)); (case hf => (rw [length_splice _ _ _ (by rw [HL.out]; omega), HL.out]; show (k + 1) * 4 + 4 ≤ c * 4; omega)); intro w2 hw2; obtain ⟨hr2, hB2, hK2⟩ := hw2; have HR2 := zA hr2; have HB2 := zA hB2; have HK2 := zA hK2; clear hr2 hB2 hK2))
 go_ret
 have e1 : n - 1 = k + 1 := by omega
 have l1 : k * 4 + x.length ≤ cur.length := by rw [HL.out]; omega
 have l2 : (k + 1) * 4 + zc.length ≤ (splice cur (k * 4) x).length := by rw [length_splice _ _ _ l1, HL.out]; show (k + 1) * 4 + 4 ≤ c * 4; omega
 refine ⟨splice (splice cur (k * 4) x) ((k + 1) * 4) zc, by rw [e1]; rfl, HR2.out, by rw [length_splice _ _ _ l2, length_splice _ _ _ l1, HL.out], ?_, HB2.out, HK1.out.then_ HK2.out (fun _ h => .inl h)⟩
 rw [e1, splice_take _ _ _ _ l2 (Nat.le_refl _), show (k + 1) * 4 = k * 4 + x.length from by rw [hx]; omega, splice_to _ _ _ l1]
set_option maxRecDepth 100000 in
set_option maxHeartbeats 2000000 in
theorem replace_mid (g c k m : Nat) (cur : List Value) (hm : 0 < m) (hn : k + 2 + m ≤ c) (hc : c ≤ 9223372036854775807 ∧ k + 2 + m ≤ 1099511627776) (hlen : cur.length = c * 4) (b : Nat) (x : List Value) (hx : x.length = 4) (hxo : ∀ v ∈ x, v.oneCell' = true) (hco : ∀ v ∈ (cur.drop ((k + 2) * 4)).take (m * 4), v.oneCell' = true) (w : World) (hg : w.heap[g]? = some (.cells cur.toArray 59 (0, 0))) (hb : w.heap[b]? = some (.cells x.toArray 59 (0, 0))) (B : Nat) (w0 : World) (hB : Below B w0 w) (hBg : B ≤ g) :
  Calls Tryz.prog 62 #[.slice (some ⟨g, 0, none⟩) (k + 2 + m) c, .int .i64 (k : Int), .int .i64 ((k : Int) + 2), .slice (some ⟨b, 0, none⟩) 1 1] w fun e w' => ∃ cur' : List Value, e = .returned (.slice (some ⟨g, 0, none⟩) (k + 1 + m) c) ∧ w'.heap[g]? = some (.cells cur'.toArray 59 (0, 0)) ∧ cur'.length = c * 4 ∧ cur'.take ((k + 1 + m) * 4) = cur.take (k * 4) ++ x ++ (cur.drop ((k + 2) * 4)).take (m * 4) ∧ Below B w0 w' ∧ Kept w w' (fun q => q = g) := by
 have h1 : ¬ c = k := by omega
 have h2 : ¬ c = k + 1 := by omega
 have h3 : ¬ c = k + 2 := by omega
 have h4 : ¬ c = k + 1 + m := by omega
 have hkz : (k : Int) + 2 ≤ (k : Int) + 2 + (m : Int) := by omega
 have hke : ((k : Int) + 2 == (k : Int) + 2 + (m : Int)) = false := by simp; omega
 have hkf : ((k : Int) == (k : Int) + 2) = false := by simp; omega
 have hcc : ¬ ((k : Int) + 1 + (m : Int) > (c : Int)) := by omega
 have HG := zA hg
 have HX := zA hb
 have HB := zA hB
 have HL := zA hlen
 have hz := infoSeg
 have hsz : (Tryz.prog.info? 59).map (·.size) = some 4 := by
  cases hq : Tryz.prog.info? 59 with
  | none => rw [hq] at hz; cases hz
  | some i => rw [hq] at hz; simp only [Option.map_some, Option.some.injEq, Prod.mk.injEq] at hz ⊢; exact hz.2.1
 have HSZ := zA hsz
 have hxr : ∀ (W : World) (b o : Nat) (row cs : List Value), W.heap[b]? = some (.cells row.toArray 59 (0, 0)) → (∀ j u, cs[j]? = some u → row[o + j]? = some u) → ∀ j u, cs[j]? = some u → W.cell? ((⟨b, o, none⟩ : Addr).add j) = some u := fun W b o row cs hW hr j u hj => by
  have hadd : (⟨b, o, none⟩ : Addr).add j = ⟨b, o + j, none⟩ := by unfold Addr.add; split <;> simp_all
  rw [hadd, blk_cell hW (o + j)]
  simpa using hr j u hj
 have HXR := zA hxr
 have HCO := zA hco
 have l1 : k * 4 + x.length ≤ cur.length := by rw [HL.out]; omega
 have lc : ((cur.drop ((k + 2) * 4)).take (m * 4)).length = m * 4 := by rw [List.length_take, List.length_drop, HL.out]; omega
 have L1 := zA l1
 have LC := zA lc
 clear hg hb hB hlen hz hsz hxr hco l1 lc
 go_enter Tryz.func62, Tryz.ntmps62
 go_wp2_with fail
 go_quiet (fail)
 have HG1 := zA (blk_drewN HG.out nq)
 go_wp2_with ((with_reducible refine wpList_copy_rows rfl (.tmp 95) (.tmp 96) 44 44 rfl 59 4 Tryz.underlying44 HSZ.out g (k * 4) _ _ ⟨b, 0, none⟩ 1 1 rfl rfl cur 59 HG1.out x ?hn (HXR.out _ b 0 x x (blk_drewN HX.out nq) (fun j u h => by rw [Nat.zero_add]; exact h)) L1.out hxo B w0 (pw_below_drewN HB.out nq) hBg ?_); (case hn => (rw [hx]; show 4 = min 1 _ * 4; omega)); intro w1 hw1; obtain ⟨hr1, hB1, hK1⟩ := hw1; have HR1 := zA hr1; have HB1 := zA hB1; have HK1 := zA hK1; clear hr1 hB1 hK1)
 have hsp : ∀ j u, ((cur.drop ((k + 2) * 4)).take (m * 4))[j]? = some u → (splice cur (k * 4) x)[(k + 2) * 4 + j]? = some u := fun j u hj => by
  have e := splice_drop cur (k * 4) x ((k + 2) * 4) L1.out (by rw [hx]; omega)
  rw [← List.getElem?_drop, e]
  obtain ⟨hl, he⟩ := List.getElem?_eq_some_iff.1 hj
  rw [List.getElem_take] at he
  have hl2 : j < (cur.drop ((k + 2) * 4)).length := by rw [List.length_take] at hl; omega
  exact List.getElem?_eq_some_iff.2 ⟨hl2, he⟩
 have HSP := zA hsp
 have HOC := zA HCO.out
 have HL2 := zA (length_splice cur (k * 4) x L1.out)
 clear hsp
 generalize hcs : (cur.drop ((k + 2) * 4)).take (m * 4) = cs at HSP HOC LC
 have HCS := zA hcs
 clear hcs
 have hw1 : IntKind.i64.wrap ((k : Int) + 1) = (k : Int) + 1 := by rw [IntKind.wrap_i64]; omega
 have hw2 : (0 : Int) ≤ (k : Int) + 1 := by clear hw1; omega
 have hw3 : ((k : Int) + 1).toNat = k + 1 := by clear hw1; omega
 have hw4 : (k : Int) + 1 ≤ (k : Int) + 1 + (m : Int) := by clear hw1; omega
 have hw5 : ((k : Int) + 2).toNat = k + 2 := by clear hw1; omega
 have hw6 : (0 : Int) ≤ (k : Int) + 2 := by clear hw1; omega
 go_region_law (refine step_copy_rows zq16 (.tmp 103) (.tmp 106) 44 44 zq16 59 4 Tryz.underlying44 HSZ.out g ((k + 1) * 4) m (c - (k + 1)) ⟨g, (k + 2) * 4, none⟩ m (c - (k + 2)) (by first | (go_simp; done) | (simp; done)) (by first | (go_simp; done) | (simp; done)) (splice cur (k * 4) x) 59 (blk_drew HR1.out) cs ?hn (HXR.out _ g ((k + 2) * 4) _ cs (blk_drew HR1.out) HSP.out) ?hf HOC.out B w0 (below_drew1 HB1.out) hBg ?_; (case hn => (rw [LC.out]; congr 1; first | exact (Nat.min_self _).symm | (simp; done) | omega)); (case hf => (rw [LC.out, HL2.out, HL.out]; clear hw1 hw3 hw5; omega)); intro w2 hw2; obtain ⟨hr2, hB2, hK2⟩ := hw2; have HR2 := zA hr2; have HB2 := zA hB2; have HK2 := zA hK2; clear hr2 hB2 hK2)
 clear hw1 hw2 hw3 hw4 hw5 hw6
 have l2 : (k + 1) * 4 + cs.length ≤ (splice cur (k * 4) x).length := by rw [LC.out, HL2.out, HL.out]; omega
 have l3 : (k + 1 + m) * 4 + zc.length ≤ (splice (splice cur (k * 4) x) ((k + 1) * 4) cs).length := by rw [length_splice _ _ _ l2, HL2.out, HL.out]; show (k + 1 + m) * 4 + 4 ≤ c * 4; omega
 have L2 := zA l2
 have L3 := zA l3
 clear l2 l3
 all_goals
  go_wp2_with ((with_reducible refine wpList_clear_rows rfl (.tmp 110) 44 rfl 59 _ zc Tryz.underlying44 zeroS g ((k + 1 + m) * 4) _ _ ?hn rfl ?hz (splice (splice cur (k * 4) x) ((k + 1) * 4) cs) 59 HR2.out L3.out zc_one B w0 HB2.out hBg ?_); (case hn => omega); (case hz => exact one_of _ zq1); intro w3 hw3; obtain ⟨hr3, hB3, hK3⟩ := hw3; have HR3 := zA hr3; have HB3 := zA hB3; have HK3 := zA hK3; clear hr3 hB3 hK3)
  go_ret
  have kd : ∀ (W : World) (q : Nat), Kept W (W.drewN q) (fun q => q = g) := fun W q => Kept.of_below (pw_below_drewN (Below.refl _ _) q) _
  have kd1 : ∀ (W : World), Kept W W.drew (fun q => q = g) := fun W => Kept.of_below (below_drew1 (Below.refl _ _)) _
  refine ⟨splice (splice (splice cur (k * 4) x) ((k + 1) * 4) cs) ((k + 1 + m) * 4) zc, rfl, HR3.out, by rw [length_splice _ _ _ L3.out, length_splice _ _ _ L2.out, HL2.out, HL.out], ?_, HB3.out, ((((kd w nq).then_ HK1.out (fun _ h => .inl h)).then_ (kd1 w1) (fun _ h => .inl h)).then_ HK2.out (fun _ h => .inl h)).then_ HK3.out (fun _ h => .inl h)⟩
  rw [splice_take _ _ _ _ L3.out (Nat.le_refl _), show (k + 1 + m) * 4 = (k + 1) * 4 + cs.length from by rw [LC.out]; omega, splice_to _ _ _ L2.out, show (k + 1) * 4 = k * 4 + x.length from by rw [hx]; omega, splice_to _ _ _ L1.out, HCS.out]
def repl (ss : List SegT) (k : Nat) (sg : SegT) : List SegT := ss.take k ++ [sg] ++ ss.drop (k + 2)
theorem repl_len (ss : List SegT) (k : Nat) (sg : SegT) (h : k + 2 ≤ ss.length) : (repl ss k sg).length = ss.length - 1 := by
 unfold repl
 rw [List.length_append, List.length_append, List.length_take, List.length_drop, List.length_singleton]
 omega
theorem rep_calls (ss : List SegT) (k g c : Nat) (hk : k + 2 ≤ ss.length) (base : Nat) (ok okp : Nat → Prop) (sg : SegT) (b : Nat) (xc : List Value) (w w0 : World) (h : Kd.R kSeg 59 w base ok (.slice (some ⟨g, 0, none⟩) ss.length c) ss) (hc : c ≤ 9223372036854775807 ∧ ss.length ≤ 1099511627776) (hb : w.heap[b]? = some (.cells xc.toArray 59 (0, 0))) (hM : kSeg.M w base okp sg xc) (hokp : ∀ k, okp k → k ≠ g) (hB : Below base w0 w) :
  Calls Tryz.prog 62 #[.slice (some ⟨g, 0, none⟩) ss.length c, .int .i64 (k : Int), .int .i64 ((k : Int) + 2), .slice (some ⟨b, 0, none⟩) 1 1] w fun e w' => e = .returned (.slice (some ⟨g, 0, none⟩) (ss.length - 1) c) ∧ Kd.R kSeg 59 w' base (fun q => ok q ∨ okp q) (.slice (some ⟨g, 0, none⟩) (ss.length - 1) c) (repl ss k sg) ∧ Below base w0 w' ∧ Kept w w' (fun q => q = g) := by
 obtain ⟨h0, inner, ⟨hl, ho⟩, hr⟩ := h
 rcases ho with ⟨e, _⟩ | ⟨g', cap, cur, e, hbase, hh, hle, hmax, hsz, htk⟩
 ·cases e
 obtain ⟨rfl, rfl⟩ : g' = g ∧ cap = c := by injection e with e1 e2 e3; injection e1 with e1; injection e1 with e1; exact ⟨e1.symm, e3.symm⟩
 have hl : inner.length = ss.length * 4 := hl
 have hsz : cur.size = cap * 4 := hsz
 have htk : cur.toList.take (ss.length * 4) = inner := htk
 have hh : w.heap[g']? = some (.cells cur.toList.toArray 59 (0, 0)) := by simpa using hh
 have hcl : cur.toList.length = cap * 4 := by simpa using hsz
 have hx : xc.length = 4 := kSeg.K_len (kSeg.K_of_M hM)
 have hxo := kSeg.K_one (kSeg.K_of_M hM)
 have hin : ∀ v ∈ inner, v.oneCell' = true := Kd.reps_one hr zq15 (fun p c hp => kSeg.K_one (kSeg.K_of_M hp))
 have t1 : cur.toList.take (k * 4) = inner.take (k * 4) := by rw [← htk, List.take_take, Nat.min_eq_left zq1]
 have fin : ∀ (w' : World) (cur' : List Value), w'.heap[g']? = some (.cells cur'.toArray 59 (0, 0)) → cur'.length = cap * 4 → cur'.take ((ss.length - 1) * 4) = inner.take (k * 4) ++ xc ++ inner.drop ((k + 2) * 4) → Kept w w' (fun q => q = g') → Kd.R kSeg 59 w' base (fun q => ok q ∨ okp q) (.slice (some ⟨g', 0, none⟩) (ss.length - 1) cap) (repl ss k sg) := by
  intro w' cur' h1 h2 h3 hK
  have hm : ∀ {o : Nat → Prop} {x : SegT} {cs : List Value}, (∀ q, o q → (ok q ∨ okp q) ∧ q ≠ g') → kSeg.M w base o x cs → kSeg.M w' base (fun q => (ok q ∨ okp q) ∧ some q ≠ (Value.slice (some ⟨g', 0, none⟩) (ss.length - 1) cap).ownBlock) x cs := fun ho hx => kSeg.M_mono (fun q hq => ⟨(ho q hq).1, fun e => (ho q hq).2 (by simpa [Value.ownBlock] using e)⟩) (Kd.M_step hx (fun q hq hlt => hK.2 q hlt (ho q hq).2))
  refine ⟨fun q hq => .inl (h0 q hq), inner.take (k * 4) ++ xc ++ inner.drop ((k + 2) * 4), ⟨?_, .inr ⟨g', cap, cur'.toArray, by rw [repl_len ss k sg hk], hbase, h1, by rw [repl_len ss k sg hk]; omega, hmax, (show cur'.toArray.size = cap * 4 from by simpa using h2), ?_⟩⟩, ?_⟩
  ·rw [repl_len ss k sg hk, List.length_append, List.length_append, List.length_take, List.length_drop, hl, hx]
   show _ = (ss.length - 1) * 4
   omega
  ·rw [repl_len ss k sg hk]
   show cur'.toArray.toList.take ((ss.length - 1) * 4) = _
   simpa using h3
  ·have hr' : Reps (kSeg.M w' base (fun q => (ok q ∨ okp q) ∧ some q ≠ (Value.slice (some ⟨g', 0, none⟩) (ss.length - 1) cap).ownBlock)) 4 ss inner := hr.imp_ (fun p c hp => hm (fun q hq => ⟨.inl hq.1, fun e => hq.2 (by rw [e]; rfl)⟩) hp)
   have hx' : Reps (kSeg.M w' base (fun q => (ok q ∨ okp q) ∧ some q ≠ (Value.slice (some ⟨g', 0, none⟩) (ss.length - 1) cap).ownBlock)) 4 [sg] xc := by
    have h := Reps.snoc (Reps.none _ 4) (hm (fun q hq => ⟨.inr hq, hokp q hq⟩) hM) hx
    simpa using h
   exact Kd.reps_append (Kd.reps_append (Kd.reps_take hr' zq1) hx') (Kd.reps_drop hr')
 by_cases hend : k + 2 = ss.length
 ·refine (replace_end g' cap ss.length k cur.toList hend hle hc hcl b xc hx hxo w hh hb base w0 hB hbase).mono ?_
  rintro e w' ⟨cur', he, hr1, hl1, ht1, hB1, hK1⟩
  refine ⟨he, fin w' cur' hr1 hl1 ?_ hK1, hB1, hK1⟩
  rw [ht1, t1, List.drop_of_length_le zq1, List.append_nil]
 ·obtain ⟨m, hm⟩ : ∃ m, ss.length = k + 2 + m := ⟨ss.length - (k + 2), zq1⟩
  have t2 : (cur.toList.drop ((k + 2) * 4)).take (m * 4) = inner.drop ((k + 2) * 4) := by
   rw [← htk, List.drop_take]
   congr 1
   omega
  have hcall := replace_mid g' cap k m cur.toList zq1 zq1 zq1 hcl b xc hx hxo (by rw [t2]; exact fun v hv => hin v (List.mem_of_mem_drop hv)) w hh hb base w0 hB hbase
  rw [← hm] at hcall
  refine hcall.mono ?_
  rintro e w' ⟨cur', he, hr1, hl1, ht1, hB1, hK1⟩
  have e1 : k + 1 + m = ss.length - 1 := by omega
  rw [e1] at he ht1
  refine ⟨he, fin w' cur' hr1 hl1 ?_ hK1, hB1, hK1⟩
  rw [ht1, t1, t2]
end Go.Proofs.YtmgmdnmfalepkaaGreat.Rep

namespace Go.Proofs.YtmgmdnmfalepkaaGreat.L
open Go.RowKit Go.Proofs.YtmgmdnmfalepkaaGreatW.PrintWords Go.Proofs.YtmgmdnmfalepkaaGreatW.PrintLast Go.Proofs.YtmgmdnmfalepkaaGreatW.PrintMore
attribute [local go_sem] max2_int min2_int max_two min_two max_three min_three max_four min_four
set_option linter.unusedVariables false
set_option linter.unusedSimpArgs false
def spec_l4read.l0 : Nat → List Int → Int → Int → Int → Int → Option (Int × Int)
 | 0, _, _, _, _, _ => none
 | k + 1, x0, x1, x6, x7, x8 => if x8 < 4 then (if (wrap64 (x1 + x8)) ≥ (x0.length : Int) then (some (0, (-1))) else (if 0 ≤ (wrap64 (x1 + x8)) then (if (wrap64 (x1 + x8)) < (x0.length : Int) then (if (wrap64 (rd x0 (wrap64 (x1 + x8)))) < 128 then (some (wrap64 (x6 + (wrap64 ((Int.tmod (wrap64 (rd x0 (wrap64 (x1 + x8)))) 128) * x7))), wrap64 ((wrap64 (x1 + x8)) + 1))) else (spec_l4read.l0 k x0 x1 (wrap64 (x6 + (wrap64 ((Int.tmod (wrap64 (rd x0 (wrap64 (x1 + x8)))) 128) * x7)))) (wrap64 (x7 * 128)) (wrap64 (x8 + 1)))) else (none)) else (none))) else (some (0, (-1)))
def spec_l4read.f (k : Nat) (l0 : List Int) (a1 : Int) : Option (Int × Int) := spec_l4read.l0 k l0 a1 0 1 0
theorem spec_l4read.mono_l : ∀ k, (∀ y0 y1 y2 y3 y4, LeO (spec_l4read.l0 k y0 y1 y2 y3 y4) (spec_l4read.l0 (k + 1) y0 y1 y2 y3 y4))
 | 0 => fun _ _ _ _ _ r h => by simp [spec_l4read.l0] at h
 | k + 1 => by
  have ih0 := spec_l4read.mono_l k
  ·intro y0 y1 y2 y3 y4
   unfold spec_l4read.l0
   repeat' first
   | (with_reducible exact ih0 _ _ _ _ _)
   | (with_reducible exact LeO.refl _)
   | (with_reducible exact LeO.none _)
   | (with_reducible refine LeO.ite ?_ ?_)
   | (with_reducible refine LeO.bind ?_ (fun _ => ?_))
   | exact ih0 _ _ _ _ _
   | exact LeO.none _
   | refine LeO.ite ?_ ?_
   | refine LeO.bind ?_ (fun _ => ?_)
theorem spec_l4read.mono : ∀ a0 a1 k, LeO (spec_l4read.f k a0 a1) (spec_l4read.f (k + 1) a0 a1) := by
 intro a0 a1 k
 have ih0 := spec_l4read.mono_l k
 unfold spec_l4read.f
 repeat' first
   | (with_reducible exact ih0 _ _ _ _ _)
   | (with_reducible exact LeO.refl _)
   | (with_reducible exact LeO.none _)
   | (with_reducible refine LeO.ite ?_ ?_)
   | (with_reducible refine LeO.bind ?_ (fun _ => ?_))
   | exact ih0 _ _ _ _ _
   | exact LeO.none _
   | refine LeO.ite ?_ ?_
   | refine LeO.bind ?_ (fun _ => ?_)
set_option maxHeartbeats 8000000 in
set_option maxRecDepth 100000 in
theorem spec_l4read.calls (k : Nat) (A0 : Option Addr) (c0 : Nat) (l0 : List Int) (a1 : Int) (r1 : Int) (r2 : Int) (w : World) (hr0 : Kd.C (Kd.int .u8) w A0 l0.length l0) (hc0 : l0.length ≤ c0) (h : spec_l4read.f k l0 a1 = some (r1, r2)) :
  Calls Tryz.prog 91 #[.slice A0 l0.length c0, .int .i64 a1] w fun e w' => e = .returned (.tuple #[.int .i64 r1, .int .i64 r2]) ∧ Drawn0 w w' := by
 have HR0 := zA hr0
 have HC0 := zA hc0
 clear hr0 hc0
 have H : (spec_l4read.l0 k l0 a1 0 1 0) = some (r1, r2) := h
 clear h
 have H' := zA H
 clear H
 go_enter Tryz.func91, Tryz.ntmps91
 go_wp2
 go_loopg [6, 7, 8] k (fun kq v6 v7 v8 w' => ∃ (x6_1 : Int) (x7_1 : Int) (x8_1 : Int), v6 = .int .i64 x6_1 ∧ v7 = .int .i64 x7_1 ∧ v8 = .int .i64 x8_1 ∧ Aside0 (spec_l4read.l0 kq l0 a1 x6_1 x7_1 x8_1 = some (r1, r2)) ∧ Aside0 (kq ≤ k) ∧ Drawn0 w w')
 case atStart => exact ⟨(0), (1), (0), zq4, zq4, zq4, H', ⟨Nat.le_refl _⟩, zq8⟩
 case round =>
  clear H'
  try clear p2
  obtain ⟨x6_1, x7_1, x8_1, rfl, rfl, rfl, HA, HK1, ⟨m1, rfl⟩⟩ := hrel
  cases gk with
  | zero => exact absurd HA.out (by simp [spec_l4read.l0])
  | succ k1 =>
   have H := HA.out
   clear HA
   simp only [spec_l4read.l0] at H
   by_cases c3 : x8_1 < 4
   ·rw [if_pos c3] at H
    have c3b0 : decide (x8_1 < 4) = true := decide_eq_true c3
    clear c3
    by_cases c4 : (wrap64 (a1 + x8_1)) ≥ (l0.length : Int)
    ·rw [if_pos c4] at H
     have c4b0 : decide ((l0.length : Int) ≤ (wrap64 (a1 + x8_1))) = true := decide_eq_true c4
     clear c4
     simp only [Option.some.injEq, Prod.mk.injEq] at H
     obtain ⟨rfl, rfl⟩ := H
     go_wp2
     go_ret2
     exact ⟨zq4, zq8⟩
    ·rw [if_neg c4] at H
     have c4b0 : decide ((l0.length : Int) ≤ (wrap64 (a1 + x8_1))) = false := decide_eq_false c4
     clear c4
     obtain ⟨ji5, hji5⟩ : ∃ j_ : Int, (wrap64 (a1 + x8_1)) = j_ := ⟨_, rfl⟩
     replace H : (if 0 ≤ (ji5) then (if (ji5) < (l0.length : Int) then (if (wrap64 (rd l0 (ji5))) < 128 then (some (wrap64 (x6_1 + (wrap64 ((Int.tmod (wrap64 (rd l0 (ji5))) 128) * x7_1))), wrap64 ((ji5) + 1))) else (spec_l4read.l0 k1 l0 a1 (wrap64 (x6_1 + (wrap64 ((Int.tmod (wrap64 (rd l0 (ji5))) 128) * x7_1)))) (wrap64 (x7_1 * 128)) (wrap64 (x8_1 + 1)))) else (none)) else (none)) = some (r1, r2) := by first | (rw [hji5] at H; exact H) | (simp only [hji5] at H ⊢; exact H)
     (try rw [hji5] at c4b0)
     have hji5w : (IntKind.i64.wrap (a1 + x8_1)) = ji5 := (i64_w _).trans hji5
     by_cases c6 : 0 ≤ (ji5)
     ·rw [if_pos c6] at H
      have c6b0 : decide (0 ≤ (ji5)) = true := decide_eq_true c6
      clear c6
      by_cases c7 : (ji5) < (l0.length : Int)
      ·rw [if_pos c7] at H
       have c7b0 : decide ((ji5) < (l0.length : Int)) = true := decide_eq_true c7
       clear c7
       by_cases c8 : (wrap64 (rd l0 (ji5))) < 128
       ·rw [if_pos c8] at H
        have c8b0 : decide ((wrap64 (rd l0 (ji5))) < 128) = true := decide_eq_true c8
        clear c8
        simp only [Option.some.injEq, Prod.mk.injEq] at H
        obtain ⟨rfl, rfl⟩ := H
        have p343 : 0 ≤ ((ji5) : Int) := of_decide_eq_true zq2
        have q343 : (ji5) < (l0.length : Int) := of_decide_eq_true zq2
        obtain ⟨ad343, e343, hx343_0⟩ := Kd.at_int HR0.out (ji5) p343 q343
        cases e343
        replace p343 := eq_true p343
        replace q343 := eq_true q343
        go_wp2
        go_ret2
        exact ⟨zq38, zq8⟩
       ·rw [if_neg c8] at H
        have c8b0 : decide ((wrap64 (rd l0 (ji5))) < 128) = false := decide_eq_false c8
        clear c8
        have H' := zA H
        clear H
        have p343 : 0 ≤ ((ji5) : Int) := of_decide_eq_true zq2
        have q343 : (ji5) < (l0.length : Int) := of_decide_eq_true zq2
        obtain ⟨ad343, e343, hx343_0⟩ := Kd.at_int HR0.out (ji5) p343 q343
        cases e343
        replace p343 := eq_true p343
        replace q343 := eq_true q343
        go_wp2
        go_roundg k1
        case measure => have := HK1.out; omega
        case rel => exact ⟨(wrap64 (x6_1 + (wrap64 ((Int.tmod (wrap64 (rd l0 (ji5))) 128) * x7_1)))), (wrap64 (x7_1 * 128)), (wrap64 (x8_1 + 1)), zq38, zq4, zq4, H', ⟨zq33⟩, zq8⟩
      ·rw [if_neg c7] at H
       exact absurd H zq12
     ·rw [if_neg c6] at H
      exact absurd H zq12
   ·rw [if_neg c3] at H
    have c3b0 : decide (x8_1 < 4) = false := decide_eq_false c3
    clear c3
    simp only [Option.some.injEq, Prod.mk.injEq] at H
    obtain ⟨rfl, rfl⟩ := H
    go_wp2
    go_ret2
    exact ⟨zq4, zq8⟩
mutual
def spec_l4lines.j0 : Nat → List Int → Int → Int → Int → Bool → Option (Int × (List (List Int)) × Bool)
 | 0, _, _, _, _, _ => none
 | k + 1, x0, x5, x7, x8, x35 => if x35 = true then (some (0, ([] : List (List Int)), false)) else (spec_l4lines.l0 k x0 x5 x7 x8 ([] : List (List Int)) 0)
def spec_l4lines.l0 : Nat → List Int → Int → Int → Int → List (List Int) → Int → Option (Int × (List (List Int)) × Bool)
 | 0, _, _, _, _, _, _ => none
 | k + 1, x0, x5, x7, x8, x9, x10 => if x10 < x7 then ((spec_l4read.f k x0 x8).bind fun bt348 => (if bt348.2 < 0 then (some (0, ([] : List (List Int)), false)) else (if bt348.1 > (wrap64 ((x0.length : Int) - bt348.2)) then (some (0, ([] : List (List Int)), false)) else (if 0 ≤ bt348.2 then (if bt348.2 ≤ (wrap64 (bt348.2 + bt348.1)) then (if (wrap64 (bt348.2 + bt348.1)) ≤ (x0.length : Int) then (if ([] : List Int).length + ((x0.take ((wrap64 (bt348.2 + bt348.1)) : Int).toNat).drop (bt348.2 : Int).toNat).length < 140737488355328 then (if x9.length < 5864062014805 then (spec_l4lines.l0 k x0 x5 x7 (wrap64 (bt348.2 + bt348.1)) (x9 ++ [(([] : List Int) ++ ((x0.take ((wrap64 (bt348.2 + bt348.1)) : Int).toNat).drop (bt348.2 : Int).toNat))]) (wrap64 (x10 + 1))) else (none)) else (none)) else (none)) else (none)) else (none))))) else (some (x5, x9, true))
end
def spec_l4lines.f (k : Nat) (l0 : List Int) : Option (Int × (List (List Int)) × Bool) := if (l0.length : Int) < 2 then (some (0, ([] : List (List Int)), false)) else ((spec_l4read.f k l0 2).bind fun bt344 => (if bt344.2 < 0 then (some (0, ([] : List (List Int)), false)) else ((spec_l4read.f k l0 bt344.2).bind fun bt346 => (if bt346.2 < 0 then (spec_l4lines.j0 k l0 bt344.1 bt346.1 bt346.2 true) else (spec_l4lines.j0 k l0 bt344.1 bt346.1 bt346.2 (decide (bt346.1 > 1000)))))))
theorem spec_l4lines.mono_l : ∀ k, (∀ y0 y1 y2 y3 y4, LeO (spec_l4lines.j0 k y0 y1 y2 y3 y4) (spec_l4lines.j0 (k + 1) y0 y1 y2 y3 y4)) ∧ (∀ y0 y1 y2 y3 y4 y5, LeO (spec_l4lines.l0 k y0 y1 y2 y3 y4 y5) (spec_l4lines.l0 (k + 1) y0 y1 y2 y3 y4 y5))
 | 0 => ⟨fun _ _ _ _ _ r h => by simp [spec_l4lines.j0] at h, fun _ _ _ _ _ _ r h => by simp [spec_l4lines.l0] at h⟩
 | k + 1 => by
  obtain ⟨ih0, ih1⟩ := spec_l4lines.mono_l k
  refine ⟨?_, ?_⟩
  ·intro y0 y1 y2 y3 y4
   unfold spec_l4lines.j0
   repeat' first
   | (with_reducible exact ih0 _ _ _ _ _)
   | (with_reducible exact ih1 _ _ _ _ _ _)
   | (with_reducible exact spec_l4read.mono _ _ _)
   | (with_reducible exact LeO.refl _)
   | (with_reducible exact LeO.none _)
   | (with_reducible refine LeO.ite ?_ ?_)
   | (with_reducible refine LeO.bind ?_ (fun _ => ?_))
   | exact ih0 _ _ _ _ _
   | exact ih1 _ _ _ _ _ _
   | exact spec_l4read.mono _ _ _
   | exact LeO.none _
   | refine LeO.ite ?_ ?_
   | refine LeO.bind ?_ (fun _ => ?_)
  ·intro y0 y1 y2 y3 y4 y5
   unfold spec_l4lines.l0
   repeat' first
   | (with_reducible exact ih0 _ _ _ _ _)
   | (with_reducible exact ih1 _ _ _ _ _ _)
   | (with_reducible exact spec_l4read.mono _ _ _)
   | (with_reducible exact LeO.refl _)
   | (with_reducible exact LeO.none _)
   | (with_reducible refine LeO.ite ?_ ?_)
   | (with_reducible refine LeO.bind ?_ (fun _ => ?_))
   | exact ih0 _ _ _ _ _
   | exact ih1 _ _ _ _ _ _
   | exact spec_l4read.mono _ _ _
   | exact LeO.none _
   | refine LeO.ite ?_ ?_
   | refine LeO.bind ?_ (fun _ => ?_)
theorem spec_l4lines.mono : ∀ a0 k, LeO (spec_l4lines.f k a0) (spec_l4lines.f (k + 1) a0) := by
 intro a0 k
 obtain ⟨ih0, ih1⟩ := spec_l4lines.mono_l k
 unfold spec_l4lines.f
 repeat' first
   | (with_reducible exact ih0 _ _ _ _ _)
   | (with_reducible exact ih1 _ _ _ _ _ _)
   | (with_reducible exact spec_l4read.mono _ _ _)
   | (with_reducible exact LeO.refl _)
   | (with_reducible exact LeO.none _)
   | (with_reducible refine LeO.ite ?_ ?_)
   | (with_reducible refine LeO.bind ?_ (fun _ => ?_))
   | exact ih0 _ _ _ _ _
   | exact ih1 _ _ _ _ _ _
   | exact spec_l4read.mono _ _ _
   | exact LeO.none _
   | refine LeO.ite ?_ ?_
   | refine LeO.bind ?_ (fun _ => ?_)
set_option maxHeartbeats 8000000 in
set_option maxRecDepth 100000 in
theorem spec_l4lines.calls (k : Nat) (A0 : Option Addr) (c0 : Nat) (l0 : List Int) (r1 : Int) (r2 : List (List Int)) (r3 : Bool) (w : World) (hr0 : Kd.C (Kd.int .u8) w A0 l0.length l0) (hc0 : l0.length ≤ c0) (h : spec_l4lines.f k l0 = some (r1, r2, r3)) :
  Calls Tryz.prog 67 #[.slice A0 l0.length c0] w fun e w' => ∃ v1_ : Value, e = .returned (.tuple #[.int .i64 r1, v1_, .bool r3]) ∧ Kd.S (Kd.slice 5 (Kd.int .u8)) 25 w' w.heap.size (fun _ => True) v1_ r2 ∧ Below w.heap.size w w' := by
 have HR0 := zA hr0
 have HC0 := zA hc0
 clear hr0 hc0
 have HB := zA (Below.refl w.heap.size w)
 have H : (if (l0.length : Int) < 2 then (some (0, ([] : List (List Int)), false)) else ((spec_l4read.f k l0 2).bind fun bt344 => (if bt344.2 < 0 then (some (0, ([] : List (List Int)), false)) else ((spec_l4read.f k l0 bt344.2).bind fun bt346 => (if bt346.2 < 0 then (spec_l4lines.j0 k l0 bt344.1 bt346.1 bt346.2 true) else (spec_l4lines.j0 k l0 bt344.1 bt346.1 bt346.2 (decide (bt346.1 > 1000)))))))) = some (r1, r2, r3) := h
 clear h
 by_cases c2 : (l0.length : Int) < 2
 ·rw [if_pos c2] at H
  have c2b0 : decide ((l0.length : Int) < 2) = true := decide_eq_true c2
  have c2b1 : decide (l0.length < 2) = true := decide_eq_true zq1
  clear c2
  simp only [Option.some.injEq, Prod.mk.injEq] at H
  obtain ⟨rfl, rfl, rfl⟩ := H
  go_enter Tryz.func67, Tryz.ntmps67
  go_wp2
  go_ret3
  exact ⟨_, zq9, zq14, zq0⟩
 ·rw [if_neg c2] at H
  have c2b0 : decide ((l0.length : Int) < 2) = false := decide_eq_false c2
  have c2b1 : decide (l0.length < 2) = false := decide_eq_false zq1
  clear c2
  replace H := Option.bind_eq_some_iff.mp H
  obtain ⟨⟨t344, t345⟩, A30, H⟩ := H
  replace H : (if t345 < 0 then (some (0, ([] : List (List Int)), false)) else ((spec_l4read.f k l0 t345).bind fun bt346 => (if bt346.2 < 0 then (spec_l4lines.j0 k l0 t344 bt346.1 bt346.2 true) else (spec_l4lines.j0 k l0 t344 bt346.1 bt346.2 (decide (bt346.1 > 1000)))))) = some (r1, r2, r3) := H
  have A3 := zA A30
  clear A30
  by_cases c4 : t345 < 0
  ·rw [if_pos c4] at H
   have c4b0 : decide (t345 < 0) = true := decide_eq_true c4
   clear c4
   simp only [Option.some.injEq, Prod.mk.injEq] at H
   obtain ⟨rfl, rfl, rfl⟩ := H
   go_enter Tryz.func67, Tryz.ntmps67
   go_wp2_with (first | ((with_reducible refine gate_callee (f := 91) rfl ?_); refine goesL_ (some 19) rfl rfl Tryz.func91 zq5 rfl #[.slice A0 l0.length c0, .int .i64 2] rfl zq6 ?_; (with_reducible refine (spec_l4read.calls k _ _ l0 2 t344 t345 _ ?side1 ?side2 A3.out).mono ?_); (case side1 => repeat (first | exact HR0.out | (with_reducible refine Kd.C_alloc ?_ _) | (with_reducible refine Kd.C_drewN ?_ _) | (with_reducible refine Kd.C_drew ?_))); (case side2 => exact HC0.out); rintro e w' ⟨rfl, ⟨nd, rfl⟩⟩; refine ⟨_, rfl, ?_⟩))
   go_ret3
   exact ⟨_, zq9, zq14, zq0⟩
  ·rw [if_neg c4] at H
   have c4b0 : decide (t345 < 0) = false := decide_eq_false c4
   clear c4
   replace H := Option.bind_eq_some_iff.mp H
   obtain ⟨⟨t346, t347⟩, A50, H⟩ := H
   replace H : (if t347 < 0 then (spec_l4lines.j0 k l0 t344 t346 t347 true) else (spec_l4lines.j0 k l0 t344 t346 t347 (decide (t346 > 1000)))) = some (r1, r2, r3) := H
   have A5 := zA A50
   clear A50
   have HC6 := zA H
   clear H
   go_enter Tryz.func67, Tryz.ntmps67
   go_upto_region 7 with (first | ((with_reducible refine gate_callee (f := 91) rfl ?_); refine goesL_ (some 19) rfl rfl Tryz.func91 zq5 rfl #[.slice A0 l0.length c0, .int .i64 2] rfl zq6 ?_; (with_reducible refine (spec_l4read.calls k _ _ l0 2 t344 t345 _ ?side1 ?side2 A3.out).mono ?_); (case side1 => repeat (first | exact HR0.out | (with_reducible refine Kd.C_alloc ?_ _) | (with_reducible refine Kd.C_drewN ?_ _) | (with_reducible refine Kd.C_drew ?_))); (case side2 => exact HC0.out); rintro e w' ⟨rfl, ⟨nd, rfl⟩⟩; refine ⟨_, rfl, ?_⟩) | ((with_reducible refine gate_callee (f := 91) rfl ?_); refine goesL_ (some 27) rfl rfl Tryz.func91 zq5 rfl #[.slice A0 l0.length c0, .int .i64 t345] rfl zq6 ?_; (with_reducible refine (spec_l4read.calls k _ _ l0 t345 t346 t347 _ ?side1 ?side2 A5.out).mono ?_); (case side1 => repeat (first | exact HR0.out | (with_reducible refine Kd.C_alloc ?_ _) | (with_reducible refine Kd.C_drewN ?_ _) | (with_reducible refine Kd.C_drew ?_))); (case side2 => exact HC0.out); rintro e w' ⟨rfl, ⟨nd, rfl⟩⟩; refine ⟨_, rfl, ?_⟩))
   (try simp only [Act.put, List.setIfInBounds_toArray, List.set_cons_zero, List.set_cons_succ])
   go_cut [35] (fun v35 wc => ∃ (kq : Nat) (x35_5 : Bool), v35 = .bool x35_5 ∧ Aside0 (spec_l4lines.j0 kq l0 t344 t346 t347 x35_5 = some (r1, r2, r3)) ∧ Aside0 (kq ≤ k) ∧ Aside0 (Below w.heap.size w wc))
   case first =>
    have H := HC6.out
    clear HC6
    by_cases c7 : t347 < 0
    ·rw [if_pos c7] at H
     have c7b0 : decide (t347 < 0) = true := decide_eq_true c7
     clear c7
     (first | rw [c7b0] | (simp only [i64_w, i32_w]; rw [c7b0]) | skip)
     have H' := zA H
     clear H
     go_wp2
     go_meet
     case rel => exact ⟨_, (true), zq4, H', ⟨by first | omega | exact Nat.le_refl _⟩, ⟨zq0⟩⟩
    ·rw [if_neg c7] at H
     have c7b0 : decide (t347 < 0) = false := decide_eq_false c7
     clear c7
     (first | rw [c7b0] | (simp only [i64_w, i32_w]; rw [c7b0]) | skip)
     have H' := zA H
     clear H
     go_wp2
     go_meet
     case rel => exact ⟨_, (decide (t346 > 1000)), zq4, H', ⟨by first | omega | exact Nat.le_refl _⟩, ⟨zq0⟩⟩
   case rest =>
    clear HC6
    try clear c2
    try clear c2b0
    try clear c2b1
    try clear p2
    try clear c4
    try clear c4b0
    try clear c6
    try clear c7
    try clear c7b0
    obtain ⟨kq, x35_5, rfl, HA, HJ5, HB⟩ := hcut
    cases kq with
    | zero => exact absurd HA.out (by simp [spec_l4lines.j0])
    | succ kj5 =>
     have H := HA.out
     clear HA
     simp only [spec_l4lines.j0] at H
     by_cases c8 : x35_5 = true
     ·subst c8
      have H1 : (some (0, ([] : List (List Int)), false)) = some (r1, r2, r3) := by rw [if_pos rfl] at H; exact H
      clear H
      have H := H1
      clear H1
      simp only [Option.some.injEq, Prod.mk.injEq] at H
      obtain ⟨rfl, rfl, rfl⟩ := H
      go_wp2
      go_ret3
      exact ⟨_, zq9, zq14, zq0⟩
     ·replace c8 := Bool.eq_false_iff.mpr c8
      subst c8
      have H1 : (spec_l4lines.l0 kj5 l0 t344 t346 t347 ([] : List (List Int)) 0) = some (r1, r2, r3) := by rw [if_neg (show ¬ (false = true) by decide)] at H; exact H
      clear H
      have H := H1
      clear H1
      have H' := zA H
      clear H
      go_wp2
      go_loopg [8, 9, 10] kj5 (fun kq v8 v9 v10 w' => ∃ (x8_2 : Int) (x9_2 : List (List Int)) (x10_2 : Int), v8 = .int .i64 x8_2 ∧ v10 = .int .i64 x10_2 ∧ Aside0 (spec_l4lines.l0 kq l0 t344 t346 x8_2 x9_2 x10_2 = some (r1, r2, r3)) ∧ Aside0 (kq ≤ kj5) ∧ Aside0 (Kd.S (Kd.slice 5 (Kd.int .u8)) 25 w' w.heap.size (fun _ => True) v9 x9_2) ∧ Aside0 (Below w.heap.size w w'))
      case atStart => exact ⟨(t347), (([] : List (List Int))), (0), zq4, zq4, H', ⟨Nat.le_refl _⟩, ⟨zq14⟩, ⟨zq0⟩⟩
      case round =>
       clear H'
       try clear c2
       try clear c2b0
       try clear c2b1
       try clear p2
       try clear c4
       try clear c4b0
       try clear c6
       try clear c7
       try clear c7b0
       try clear c8
       try clear p2
       obtain ⟨x8_2, x9_2, x10_2, rfl, rfl, HA, HK2, HO_9, HB⟩ := hrel
       cases gk with
       | zero => exact absurd HA.out (by simp [spec_l4lines.l0])
       | succ k2 =>
        have H := HA.out
        clear HA
        simp only [spec_l4lines.l0] at H
        by_cases c9 : x10_2 < t346
        ·rw [if_pos c9] at H
         have c9b0 : decide (x10_2 < t346) = true := decide_eq_true c9
         clear c9
         replace H := Option.bind_eq_some_iff.mp H
         obtain ⟨⟨t348, t349⟩, A100, H⟩ := H
         replace H : (if t349 < 0 then (some (0, ([] : List (List Int)), false)) else (if t348 > (wrap64 ((l0.length : Int) - t349)) then (some (0, ([] : List (List Int)), false)) else (if 0 ≤ t349 then (if t349 ≤ (wrap64 (t349 + t348)) then (if (wrap64 (t349 + t348)) ≤ (l0.length : Int) then (if ([] : List Int).length + ((l0.take ((wrap64 (t349 + t348)) : Int).toNat).drop (t349 : Int).toNat).length < 140737488355328 then (if x9_2.length < 5864062014805 then (spec_l4lines.l0 k2 l0 t344 t346 (wrap64 (t349 + t348)) (x9_2 ++ [(([] : List Int) ++ ((l0.take ((wrap64 (t349 + t348)) : Int).toNat).drop (t349 : Int).toNat))]) (wrap64 (x10_2 + 1))) else (none)) else (none)) else (none)) else (none)) else (none)))) = some (r1, r2, r3) := H
         have A10 := zA A100
         clear A100
         by_cases c11 : t349 < 0
         ·rw [if_pos c11] at H
          have c11b0 : decide (t349 < 0) = true := decide_eq_true c11
          clear c11
          simp only [Option.some.injEq, Prod.mk.injEq] at H
          obtain ⟨rfl, rfl, rfl⟩ := H
          go_wp2_with (first | ((with_reducible refine gate_callee (f := 91) rfl ?_); refine goesL_ (some 44) rfl rfl Tryz.func91 zq5 rfl #[.slice A0 l0.length c0, .int .i64 x8_2] rfl zq6 ?_; (with_reducible refine (spec_l4read.calls k2 _ _ l0 x8_2 t348 t349 _ ?side1 ?side2 A10.out).mono ?_); (case side1 => repeat (first | exact (Kd.C_below HR0.out HB.out) | (with_reducible refine Kd.C_alloc ?_ _) | (with_reducible refine Kd.C_drewN ?_ _) | (with_reducible refine Kd.C_drew ?_))); (case side2 => exact HC0.out); rintro e w' ⟨rfl, ⟨nd, rfl⟩⟩; refine ⟨_, rfl, ?_⟩))
          go_ret3
          exact ⟨_, zq9, zq14, zq0⟩
         ·rw [if_neg c11] at H
          have c11b0 : decide (t349 < 0) = false := decide_eq_false c11
          clear c11
          by_cases c12 : t348 > (wrap64 ((l0.length : Int) - t349))
          ·rw [if_pos c12] at H
           have c12b0 : decide ((wrap64 ((l0.length : Int) - t349)) < t348) = true := decide_eq_true c12
           clear c12
           simp only [Option.some.injEq, Prod.mk.injEq] at H
           obtain ⟨rfl, rfl, rfl⟩ := H
           go_wp2_with (first | ((with_reducible refine gate_callee (f := 91) rfl ?_); refine goesL_ (some 44) rfl rfl Tryz.func91 zq5 rfl #[.slice A0 l0.length c0, .int .i64 x8_2] rfl zq6 ?_; (with_reducible refine (spec_l4read.calls k2 _ _ l0 x8_2 t348 t349 _ ?side1 ?side2 A10.out).mono ?_); (case side1 => repeat (first | exact (Kd.C_below HR0.out HB.out) | (with_reducible refine Kd.C_alloc ?_ _) | (with_reducible refine Kd.C_drewN ?_ _) | (with_reducible refine Kd.C_drew ?_))); (case side2 => exact HC0.out); rintro e w' ⟨rfl, ⟨nd, rfl⟩⟩; refine ⟨_, rfl, ?_⟩))
           go_ret3
           exact ⟨_, zq9, zq14, zq0⟩
          ·rw [if_neg c12] at H
           have c12b0 : decide ((wrap64 ((l0.length : Int) - t349)) < t348) = false := decide_eq_false c12
           clear c12
           by_cases c13 : 0 ≤ t349
           ·rw [if_pos c13] at H
            have c13b0 := eq_true c13
            have c13b1 : decide (0 ≤ t349) = true := decide_eq_true c13
            clear c13
            by_cases c14 : t349 ≤ (wrap64 (t349 + t348))
            ·rw [if_pos c14] at H
             have c14b0 := eq_true c14
             have c14b1 : decide (t349 ≤ (wrap64 (t349 + t348))) = true := decide_eq_true c14
             by_cases c15 : (wrap64 (t349 + t348)) ≤ (l0.length : Int)
             ·rw [if_pos c15] at H
              have c15b0 := eq_true c15
              have c15b1 : decide ((wrap64 (t349 + t348)) ≤ (l0.length : Int)) = true := decide_eq_true c15
              by_cases c16 : ([] : List Int).length + ((l0.take ((wrap64 (t349 + t348)) : Int).toNat).drop (t349 : Int).toNat).length < 140737488355328
              ·rw [if_pos c16] at H
               have LMc16 := zA c16
               clear c16
               obtain ⟨y351, hy351⟩ : ∃ y_ : List Int, y_ = (([] : List Int) ++ ((l0.take ((wrap64 (t349 + t348)) : Int).toNat).drop (t349 : Int).toNat)) := ⟨_, rfl⟩
               replace H : (if x9_2.length < 5864062014805 then (spec_l4lines.l0 k2 l0 t344 t346 (wrap64 (t349 + t348)) (x9_2 ++ [y351]) (wrap64 (x10_2 + 1))) else (none)) = some (r1, r2, r3) := by first | (rw [hy351]; with_reducible exact H) | (have H2_ := (Option.bind_some _ _).symm.trans H; rw [hy351]; with_reducible exact H2_) | (have H2_ := (Option.bind_some _ _).symm.trans H; with_reducible exact H2_) | with_reducible exact H | (rw [hy351]; exact H) | exact H
               have Ny351 := zA hy351
               clear hy351
               by_cases c17 : x9_2.length < 5864062014805
               ·rw [if_pos c17] at H
                have LMc17 := zA c17
                clear c17
                obtain ⟨y354, hy354⟩ : ∃ y_ : List (List Int), y_ = (x9_2 ++ [y351]) := ⟨_, rfl⟩
                replace H : (spec_l4lines.l0 k2 l0 t344 t346 (wrap64 (t349 + t348)) y354 (wrap64 (x10_2 + 1))) = some (r1, r2, r3) := by first | (rw [hy354]; with_reducible exact H) | (have H2_ := (Option.bind_some _ _).symm.trans H; rw [hy354]; with_reducible exact H2_) | (have H2_ := (Option.bind_some _ _).symm.trans H; with_reducible exact H2_) | with_reducible exact H | (rw [hy354]; exact H) | exact H
                have Ny354 := zA hy354
                clear hy354
                have H' := zA H
                clear H
                go_wp2_with (first | ((with_reducible refine gate_callee (f := 91) rfl ?_); refine goesL_ (some 44) rfl rfl Tryz.func91 zq5 rfl #[.slice A0 l0.length c0, .int .i64 x8_2] rfl zq6 ?_; (with_reducible refine (spec_l4read.calls k2 _ _ l0 x8_2 t348 t349 _ ?side1 ?side2 A10.out).mono ?_); (case side1 => repeat (first | exact (Kd.C_below HR0.out HB.out) | (with_reducible refine Kd.C_alloc ?_ _) | (with_reducible refine Kd.C_drewN ?_ _) | (with_reducible refine Kd.C_drew ?_))); (case side2 => exact HC0.out); rintro e w' ⟨rfl, ⟨nd, rfl⟩⟩; refine ⟨_, rfl, ?_⟩; obtain ⟨i018, hi018, _, hsz18, _⟩ := info_parts info5; obtain ⟨A18, hcut18, hA18, hC18⟩ := print_mid_of (P := Tryz.prog) (Value.int .u8) 0 25 5 .i64 .i64 Tryz.underlying25 hi018 hsz18 A0 c0 l0 t349 (wrap64 (t349 + t348)) (of_decide_eq_true zq2) (by first | omega | exact of_decide_eq_true zq2) (of_decide_eq_true zq2) HC0.out; have HR350 := zA (Kd.C_of_reads (h1 := fun _ => rfl) (hA18 _ (Kd.reads_of_C HR0.out))); have HC350 := zA hC18; clear hA18 hC18 hi018 hsz18) | ((with_reducible refine gate_builtin (b := .append) (xs := #[.tmp 57, .tmp 63]) rfl ?_); (try (refine gate_guard zq16 ?_; dsimp only)); at_builtin; refine Kd.R_append_rows (Kd.int .u8) (w0 := w) w.heap.size rfl (.tmp 57) (.tmp 63) 25 5 (.int .u8 0) 1 rfl Tryz.underlying25 info5 rfl zq15 zq1 (.slice none 0 0) ([] : List Int) ((l0.take ((wrap64 (t349 + t348)) : Int).toNat).drop (t349 : Int).toNat) _ _ _ (fun _ => True) (fun _ => False) rfl rfl ?aO ?aR (fun _ _ h => h) (fun _ h => h.elim) ?aF ?aB ?aS ?aL ?_; (case aR => first | (rw [← show ((l0.take ((wrap64 (t349 + t348)) : Int).toNat).drop (t349 : Int).toNat).length = ((wrap64 (t349 + t348)).toNat - t349.toNat) from zq32]; repeat (first | exact (Kd.C_below HR350.out zq0) | (with_reducible refine Kd.C_alloc ?_ _) | (with_reducible refine Kd.C_drewN ?_ _) | (with_reducible refine Kd.C_drew ?_))) | (repeat (first | exact (Kd.C_below HR350.out zq0) | (with_reducible refine Kd.C_alloc ?_ _) | (with_reducible refine Kd.C_drewN ?_ _) | (with_reducible refine Kd.C_drew ?_)))); (case aB => exact zq0); (case aF => exact (fun _ _ => trivial)); (case aO => exact ((Kd.R_nil _ _ _ _ (fun _ => True)))); (case aS => exact (below_size zq0)); (case aL => have := LMc16.out; have hlx_ := (show ((l0.take ((wrap64 (t349 + t348)) : Int).toNat).drop (t349 : Int).toNat).length = ((wrap64 (t349 + t348)).toNat - t349.toNat) from zq32); omega); intro v352 w19 ho hb hg hat; rw [← Ny351.out] at ho; have n0_ := zA (Kd.S_after (Kd.S_apart_nil (by (with_reducible repeat (first | apply Kd.S_alloc | apply Kd.S_drewN | apply Kd.S_drew)); exact HO_9.out)) hg hat); have n1_ := zA (hb); have n2_ := zA (ho); clear HO_9; clear HB; have HO_9 := n0_; have HB := n1_; have HO353 := n2_; clear n0_ n1_ n2_; clear ho hb hg hat; obtain ⟨Ao21, co21, eo21⟩ := Kd.R_slice HO353.out; subst eo21) | ((with_reducible refine gate_builtin (b := .append) (xs := #[.tmp 65, .tmp 67]) rfl ?_); (try (refine gate_guard zq16 ?_; dsimp only)); at_builtin; refine Kd.S_append (Kd.slice 5 (Kd.int .u8)) (w0 := w) w.heap.size rfl (.tmp 65) (.tmp 67) 22 25 (.slice none 0 0) 24 rfl Tryz.underlying22 info25 rfl zq15 zq1 u9 x9_2 y351 [.slice Ao21 y351.length co21] (fun _ => True) (fun k_ => some k_ = (.slice Ao21 y351.length co21 : Value).ownBlock) rfl rfl ?aP (fun k_ hk_ => ((Kd.R_mono (ok' := fun k_ => ((fun _ => True)) k_ ∧ some k_ ≠ (u9 : Value).ownBlock) (Kd.R_apart' (HO353.out) (Kd.S_typed HO_9.out) zq15) (fun k_ hk => ⟨trivial, hk.2⟩))).1 k_ hk_.symm) ?aF ?aO ?aB ?aS ?aL ?_; (case aP => exact Kd.M_row (Kd.R_mono (Kd.R_tight rfl (Kd.R_mono (ok' := fun k_ => ((fun _ => True)) k_ ∧ some k_ ≠ (u9 : Value).ownBlock) (Kd.R_apart' (HO353.out) (Kd.S_typed HO_9.out) zq15) (fun k_ hk => ⟨trivial, hk.2⟩))) (fun _ h_ => h_))); (case aB => exact zq0); (case aF => exact (fun _ _ => trivial)); (case aO => exact (by (with_reducible repeat (first | apply Kd.S_alloc | apply Kd.S_drewN | apply Kd.S_drew)); exact Kd.S_mono HO_9.out (fun k_ hk => ⟨trivial, fun e_ => hk.2 e_⟩))); (case aS => exact (below_size zq0)); (case aL => have := LMc17.out; omega); intro v355 w20 ho hb hg hat; rw [← Ny354.out] at ho; have n0_ := zA (hb); have n1_ := zA (ho); clear HB; clear HO_9; clear HO353; have HB := n0_; have HO356 := n1_; clear n0_ n1_; clear ho hb hg hat))
                go_roundg k2
                case measure => have := HJ5.out; have := HK2.out; omega
                case rel => exact ⟨(wrap64 (t349 + t348)), (y354), (wrap64 (x10_2 + 1)), zq4, zq4, H', ⟨by have := HJ5.out; have := HK2.out; omega⟩, ⟨by (with_reducible repeat (first | apply Kd.S_alloc | apply Kd.S_drewN | apply Kd.S_drew)); exact HO356.out⟩, ⟨zq0⟩⟩
               ·rw [if_neg c17] at H
                exact absurd H zq12
              ·rw [if_neg c16] at H
               exact absurd H zq12
             ·rw [if_neg c15] at H
              exact absurd H zq12
            ·rw [if_neg c14] at H
             exact absurd H zq12
           ·rw [if_neg c13] at H
            exact absurd H zq12
        ·rw [if_neg c9] at H
         have c9b0 : decide (x10_2 < t346) = false := decide_eq_false c9
         clear c9
         simp only [Option.some.injEq, Prod.mk.injEq] at H
         obtain ⟨rfl, rfl, rfl⟩ := H
         go_wp2
         go_ret3
         exact ⟨_, zq9, by (with_reducible repeat (first | apply Kd.S_alloc | apply Kd.S_drewN | apply Kd.S_drew)); exact HO_9.out, zq0⟩
def spec_DecodeSegment.j0 : Nat → List Int → Int → List (List Int) → Bool → Option (Int × (List (List Int)) × List Int × (List (List Int)) × Int)
 | 0, _, _, _, _ => none
 | k + 1, x0, x4, x5, x21 => if x21 = true then (some (0, ([] : List (List Int)), ([] : List Int), ([] : List (List Int)), 5)) else ((spec_l4build.f k x4 x5).bind fun bt364 => ((spec_l4encode.f k bt364.1 bt364.2.1 bt364.2.2.1 bt364.2.2.2).bind fun t375 => ((spec_l4sameBytes.f t375 x0).bind fun t378 => (if t378 = true then (some (bt364.1, bt364.2.1, bt364.2.2.1, bt364.2.2.2, 0)) else (some (0, ([] : List (List Int)), ([] : List Int), ([] : List (List Int)), 5))))))
def spec_DecodeSegment.f (k : Nat) (l0 : List Int) : Option (Int × (List (List Int)) × List Int × (List (List Int)) × Int) := (spec_l4lines.f k l0).bind fun bt358 => (if bt358.2.2 = true then ((spec_l4fits.f k bt358.1 bt358.2.1).bind fun t363 => (spec_DecodeSegment.j0 k l0 bt358.1 bt358.2.1 (!t363))) else (spec_DecodeSegment.j0 k l0 bt358.1 bt358.2.1 true))
theorem spec_DecodeSegment.mono_l : ∀ k, (∀ y0 y1 y2 y3, LeO (spec_DecodeSegment.j0 k y0 y1 y2 y3) (spec_DecodeSegment.j0 (k + 1) y0 y1 y2 y3))
 | 0 => fun _ _ _ _ r h => by simp [spec_DecodeSegment.j0] at h
 | k + 1 => by
  have ih0 := spec_DecodeSegment.mono_l k
  ·intro y0 y1 y2 y3
   unfold spec_DecodeSegment.j0
   repeat' first
   | (with_reducible exact ih0 _ _ _ _)
   | (with_reducible exact spec_l4build.mono _ _ _)
   | (with_reducible exact spec_l4encode.mono _ _ _ _ _)
   | (with_reducible exact spec_l4fits.mono _ _ _)
   | (with_reducible exact spec_l4lines.mono _ _)
   | (with_reducible exact LeO.refl _)
   | (with_reducible exact LeO.none _)
   | (with_reducible refine LeO.ite ?_ ?_)
   | (with_reducible refine LeO.bind ?_ (fun _ => ?_))
   | exact ih0 _ _ _ _
   | exact spec_l4build.mono _ _ _
   | exact spec_l4encode.mono _ _ _ _ _
   | exact spec_l4fits.mono _ _ _
   | exact spec_l4lines.mono _ _
   | exact LeO.none _
   | refine LeO.ite ?_ ?_
   | refine LeO.bind ?_ (fun _ => ?_)
theorem spec_DecodeSegment.mono : ∀ a0 k, LeO (spec_DecodeSegment.f k a0) (spec_DecodeSegment.f (k + 1) a0) := by
 intro a0 k
 have ih0 := spec_DecodeSegment.mono_l k
 unfold spec_DecodeSegment.f
 repeat' first
   | (with_reducible exact ih0 _ _ _ _)
   | (with_reducible exact spec_l4build.mono _ _ _)
   | (with_reducible exact spec_l4encode.mono _ _ _ _ _)
   | (with_reducible exact spec_l4fits.mono _ _ _)
   | (with_reducible exact spec_l4lines.mono _ _)
   | (with_reducible exact LeO.refl _)
   | (with_reducible exact LeO.none _)
   | (with_reducible refine LeO.ite ?_ ?_)
   | (with_reducible refine LeO.bind ?_ (fun _ => ?_))
   | exact ih0 _ _ _ _
   | exact spec_l4build.mono _ _ _
   | exact spec_l4encode.mono _ _ _ _ _
   | exact spec_l4fits.mono _ _ _
   | exact spec_l4lines.mono _ _
   | exact LeO.none _
   | refine LeO.ite ?_ ?_
   | refine LeO.bind ?_ (fun _ => ?_)
end Go.Proofs.YtmgmdnmfalepkaaGreat.L

namespace Go.Proofs.YtmgmdnmfalepkaaGreat.PDec
open Go.RowKit Go.Proofs.YtmgmdnmfalepkaaGreatW.PrintWords Go.Proofs.YtmgmdnmfalepkaaGreat.PKit Go.Proofs.YtmgmdnmfalepkaaGreat.PSeg Go.Proofs.YtmgmdnmfalepkaaGreat.PEnc Go.Proofs.YtmgmdnmfalepkaaGreat.L Go.Proofs.YtmgmdnmfalepkaaGreat.HelpBB
set_option linter.unusedVariables false
def readV (n : Nat) (o : Option (Nat × List Int)) : Int × Int := match o with
 | some q => ((q.1 : Int), ((n - q.2.length : Nat) : Int))
 | none => (0, -1)
theorem getD_drop (b : List Int) (i : Nat) (h : i < b.length) : b.drop i = b.getD i 0 :: b.drop (i + 1) := by
 rw [List.drop_eq_getElem_cons h]
 simp [List.getD, List.getElem?_eq_getElem h]
theorem read_ev (b : List Int) (i : Nat) (hb : ∀ x ∈ b, 0 ≤ x ∧ x ≤ 255) (hl : b.length ≤ 1048576) (hi : i ≤ b.length) : Ev (fun k => spec_l4read.f k b (i : Int)) (readV b.length (rdNum 4 (b.drop i))) := by
 have key : ∀ (d j v p : Nat), j + d = 4 → ((j = 0 ∧ p = 1) ∨ (j = 1 ∧ p = 128) ∨ (j = 2 ∧ p = 16384) ∨ (j = 3 ∧ p = 2097152) ∨ j = 4) → v < p → Ev (fun k => spec_l4read.l0 k b (i : Int) (v : Int) (p : Int) (j : Int)) (readV b.length ((rdNum d (b.drop (i + j))).map fun q => (v + p * q.1, q.2))) := by
  intro d
  induction d with
  | zero =>
   intro j v p hj hp hv
   refine Ev.step (f := fun _ => some ((0 : Int), (-1 : Int))) (fun k => ?_) (Ev.now _)
   simp only [spec_l4read.l0]
   rw [if_neg zq1]
  | succ d ih =>
   intro j v p hj hp hv
   have HW := zA (show wrap64 ((i : Int) + (j : Int)) = ((i + j : Nat) : Int) from by rw [wrap_in zq1]; omega)
   have hpb : p ≤ 2097152 := by omega
   have hp1 : ((j + 1 = 0 ∧ p * 128 = 1) ∨ (j + 1 = 1 ∧ p * 128 = 128) ∨ (j + 1 = 2 ∧ p * 128 = 16384) ∨ (j + 1 = 3 ∧ p * 128 = 2097152) ∨ j + 1 = 4) := by omega
   have HP1 := zA hp1
   clear hp1
   clear hp
   by_cases hlt : i + j < b.length
   ·rw [getD_drop b (i + j) hlt]
    obtain ⟨c0, c1⟩ := hb (b.getD (i + j) 0) (by rw [getD_get b (i + j) hlt]; exact List.getElem_mem hlt)
    have hrd : rd b ((i + j : Nat) : Int) = b.getD (i + j) 0 := rfl
    generalize b.getD (i + j) 0 = c at c0 c1 hrd ⊢
    have HC := zA (show wrap64 c = c from wrap_in zq1)
    obtain ⟨n, rfl⟩ : ∃ n : Nat, c = (n : Int) := ⟨c.toNat, zq1⟩
    have hm : n % 128 * p ≤ 127 * p := Nat.mul_le_mul_right _ zq1
    have hm' : Int.tmod (n : Int) 128 * (p : Int) = ((n % 128 * p : Nat) : Int) := by
     have : Int.tmod (n : Int) 128 = ((n % 128 : Nat) : Int) := rfl
     rw [this, ← Int.natCast_mul]
    have HV := zA (show wrap64 ((v : Int) + wrap64 (Int.tmod (n : Int) 128 * (p : Int))) = ((v + n % 128 * p : Nat) : Int) from by
     rw [hm']
     generalize n % 128 * p = z at hm
     rw [wrap_in (x := (z : Int)) zq1, wrap_in zq1]
     omega)
    clear hm'
    by_cases h128 : n < 128
    ·have hz : (n : Int) < 128 := by omega
     have e : rdNum (d + 1) ((n : Int) :: b.drop (i + j + 1)) = some (n, b.drop (i + j + 1)) := by
      show (if (n : Int) < 128 then _ else _) = _
      rw [if_pos hz, Int.toNat_natCast]
     rw [e]
     refine Ev.step (f := fun _ => some (((v + n % 128 * p : Nat) : Int), ((i + j + 1 : Nat) : Int))) (fun k => ?_) ?_
     ·simp only [spec_l4read.l0]
      rw [HW.out, if_pos zq1, if_neg zq1, if_pos zq1, if_pos zq1, hrd, HC.out, if_pos hz, HV.out, wrap_succ (i + j) zq1]
     ·have e2 : readV b.length ((some (n, b.drop (i + j + 1))).map fun q => (v + p * q.1, q.2)) = (((v + n % 128 * p : Nat) : Int), ((i + j + 1 : Nat) : Int)) := by
       unfold readV
       simp only [Option.map_some, List.length_drop]
       have hsub : b.length - (b.length - (i + j + 1)) = i + j + 1 := by omega
       rw [Nat.mod_eq_of_lt h128, Nat.mul_comm n, hsub]
      rw [e2]
      exact Ev.now _
    ·have hz : ¬ (n : Int) < 128 := by omega
     have e : rdNum (d + 1) ((n : Int) :: b.drop (i + j + 1)) = (rdNum d (b.drop (i + j + 1))).map fun q => (n % 128 + 128 * q.1, q.2) := by
      show (if (n : Int) < 128 then _ else _) = _
      rw [if_neg hz, Int.toNat_natCast]
     have e2 : ((rdNum (d + 1) ((n : Int) :: b.drop (i + j + 1))).map fun q => (v + p * q.1, q.2)) = (rdNum d (b.drop (i + (j + 1)))).map fun q => ((v + n % 128 * p) + (p * 128) * q.1, q.2) := by
      rw [e, Option.map_map, Nat.add_assoc i j 1]
      refine congrArg (fun f => Option.map f _) (funext fun q => ?_)
      simp only [Function.comp]
      rw [Nat.mul_add, ← Nat.mul_assoc, Nat.mul_comm (n % 128), Nat.add_assoc]
     rw [e2]
     have hlt2 : v + n % 128 * p < p * 128 := by
      generalize n % 128 * p = z at hm
      omega
     refine Ev.step (fun k => ?_) (ih (j + 1) (v + n % 128 * p) (p * 128) zq1 HP1.out hlt2)
     simp only [spec_l4read.l0]
     rw [HW.out, if_pos zq1, if_neg zq1, if_pos zq1, if_pos zq1, hrd, HC.out, if_neg hz, HV.out, wrap_succ j zq1]
     rw [wrap_in (x := (p : Int) * 128) zq1]
     rfl
   ·have e : b.drop (i + j) = [] := List.drop_of_length_le zq1
    rw [e]
    refine Ev.step (f := fun _ => some ((0 : Int), (-1 : Int))) (fun k => ?_) (Ev.now _)
    simp only [spec_l4read.l0]
    rw [HW.out, if_pos zq1, if_pos zq1]
 have h := key 4 0 0 1 rfl (.inl ⟨rfl, rfl⟩) zq15
 have e : ((rdNum 4 (b.drop (i + 0))).map fun q => (0 + 1 * q.1, q.2)) = rdNum 4 (b.drop i) := by
  rw [Nat.add_zero]
  cases rdNum 4 (b.drop i) with
  | none => rfl
  | some q => simp
 rw [e] at h
 exact Ev.congr (fun k => by simp only [spec_l4read.f]; rfl) h
def linesV (base : Int) (acc : List (List Int)) (o : Option (List (List Int) × List Int)) : Int × List (List Int) × Bool := match o with
 | some q => (base, acc ++ q.1, true)
 | none => (0, [], false)
theorem lines_ev (b : List Int) (hb : ∀ x ∈ b, 0 ≤ x ∧ x ≤ 255) (hl : b.length ≤ 1048576) : Ev (fun k => spec_l4lines.f k b) (match specP b with | some q => (q.1, q.2, true) | none => (0, [], false)) := by
 have L0 : ∀ (base : Int) (n pos0 : Nat) (d j pos : Nat) (acc : List (List Int)), n ≤ 1000 → j + d = n → pos ≤ b.length → acc.length = j → Ev (fun k => spec_l4lines.l0 k b base (n : Int) (pos : Int) acc (j : Int)) (linesV base acc (rdLines 4 d (b.drop pos))) := by
  intro base n pos0 d
  induction d with
  | zero =>
   intro j pos acc hn hj hp ha
   refine Ev.step (f := fun _ => some (base, acc, true)) (fun k => ?_) (by unfold linesV rdLines; simp only [List.append_nil]; exact Ev.now _)
   simp only [spec_l4lines.l0]
   rw [if_neg zq1]
  | succ d ih =>
   intro j pos acc hn hj hp ha
   have hr := read_ev b pos hb hl hp
   have e : rdLines 4 (d + 1) (b.drop pos) = (rdLine 4 (b.drop pos)).bind fun q => (rdLines 4 d q.2).map fun p => (q.1 :: p.1, p.2) := rfl
   rw [e]
   unfold rdLine
   have hs : ∀ k : Nat, spec_l4lines.l0 (k + 1) b base (n : Int) (pos : Int) acc (j : Int) = _ := fun k => by
    simp only [spec_l4lines.l0]
    rw [if_pos zq1]
   refine Ev.step hs (Ev.bind hr ?_)
   cases hq : rdNum 4 (b.drop pos) with
   | none =>
    have e1 : readV b.length (none : Option (Nat × List Int)) = (0, -1) := rfl
    rw [e1]
    refine Ev.congr (f := fun _ => some _) (fun k => ?_) (Ev.now _)
    rw [if_pos zq15]
    rfl
   | some q =>
    obtain ⟨m, r⟩ := q
    obtain ⟨q1, mm, q2, q3, q4, q5⟩ := rdNum_some 4 (b.drop pos) m r (bytes_drop hb pos) hq
    rw [List.length_drop] at q4
    rw [List.drop_drop] at q5
    have hlr : r.length = b.length - (pos + mm) := by rw [q5, List.length_drop]
    have hm4 : m < 268435456 := Nat.lt_of_lt_of_le q1 zq15
    clear q1
    have e1 : readV b.length (some (m, r)) = ((m : Int), ((pos + mm : Nat) : Int)) := by
     have hsub : b.length - r.length = pos + mm := by omega
     unfold readV
     simp only
     rw [hsub]
    rw [e1]
    have HW1 := zA (show wrap64 ((b.length : Int) - ((pos + mm : Nat) : Int)) = ((b.length - (pos + mm) : Nat) : Int) from by rw [wrap_in zq1]; omega)
    have HW2 := zA (show wrap64 (((pos + mm : Nat) : Int) + (m : Int)) = ((pos + mm + m : Nat) : Int) from by rw [wrap_in zq1]; omega)
    by_cases hm : m ≤ r.length
    ·have hR : ((some (m, r)).bind fun q => if q.1 ≤ q.2.length then some (q.2.take q.1, q.2.drop q.1) else none) = some (r.take m, b.drop (pos + mm + m)) := by
      rw [Option.bind_some]
      simp only
      rw [if_pos hm, q5, List.drop_drop]
     rw [hR]
     have hnext := ih (j + 1) (pos + mm + m) (acc ++ [r.take m]) hn zq1 zq1 (by simp [ha])
     have hV : linesV base acc ((some (r.take m, b.drop (pos + mm + m))).bind fun q => (rdLines 4 d q.2).map fun p => (q.1 :: p.1, p.2)) = linesV base (acc ++ [r.take m]) (rdLines 4 d (b.drop (pos + mm + m))) := by
      rw [Option.bind_some]
      cases rdLines 4 d (b.drop (pos + mm + m)) with
      | none => rfl
      | some p => unfold linesV; simp
     rw [hV]
     have hcut : (b.take (pos + mm + m)).drop (pos + mm) = r.take m := by
      rw [List.drop_take, q5]
      congr 1
      omega
     refine Ev.congr (fun k => ?_) hnext
     simp only
     rw [if_neg zq1, HW1.out, HW2.out, if_neg zq1, if_pos zq1, if_pos zq1, if_pos zq1, Int.toNat_natCast, Int.toNat_natCast, hcut, if_pos (by simp only [List.length_nil, List.length_take]; omega), if_pos zq1, List.nil_append, wrap_succ j zq1]
    ·have hR : ((some (m, r)).bind fun q => if q.1 ≤ q.2.length then some (q.2.take q.1, q.2.drop q.1) else none) = none := by
      rw [Option.bind_some]
      simp only
      rw [if_neg hm]
     rw [hR]
     refine Ev.congr (f := fun _ => some _) (fun k => ?_) (Ev.now _)
     simp only
     rw [if_neg zq1, HW1.out, if_pos zq1]
     rfl
 by_cases h2 : b.length < 2
 ·have e : specP b = none := by unfold specP; rw [if_pos h2]
  rw [e]
  refine Ev.congr (f := fun _ => some _) (fun k => ?_) (Ev.now _)
  simp only [spec_l4lines.f]
  rw [if_pos zq1]
 ·have e : specP b = rdHead 4 (b.drop 2) := by unfold specP; rw [if_neg h2]
  rw [e]
  unfold rdHead
  have hr := read_ev b 2 hb hl zq1
  refine Ev.congr (f := fun k => (spec_l4read.f k b ((2 : Nat) : Int)).bind fun bt447 => (if bt447.2 < 0 then (some (0, ([] : List (List Int)), false)) else ((spec_l4read.f k b bt447.2).bind fun bt449 => (if bt449.2 < 0 then (spec_l4lines.j0 k b bt447.1 bt449.1 bt449.2 true) else (spec_l4lines.j0 k b bt447.1 bt449.1 bt449.2 (decide (bt449.1 > 1000))))))) (fun k => by simp only [spec_l4lines.f]; rw [if_neg zq1]; rfl) (Ev.bind hr ?_)
  cases hq : rdNum 4 (b.drop 2) with
  | none =>
   refine Ev.congr (f := fun _ => some _) (fun k => ?_) (Ev.now _)
   have e1 : readV b.length (none : Option (Nat × List Int)) = (0, -1) := rfl
   rw [e1, if_pos zq15]
   rfl
  | some q =>
   obtain ⟨m, r⟩ := q
   obtain ⟨q1, mm, q2, q3, q4, q5⟩ := rdNum_some 4 (b.drop 2) m r (bytes_drop hb 2) hq
   rw [List.length_drop] at q4
   rw [List.drop_drop] at q5
   have hlr : r.length = b.length - (2 + mm) := by rw [q5, List.length_drop]
   have e1 : readV b.length (some (m, r)) = ((m : Int), ((2 + mm : Nat) : Int)) := by
    have hsub : b.length - r.length = 2 + mm := by omega
    unfold readV
    simp only
    rw [hsub]
   rw [e1, Option.bind_some]
   simp only
   have hr2 := read_ev b (2 + mm) hb hl zq1
   rw [← q5] at hr2
   refine Ev.congr (f := fun k => (spec_l4read.f k b ((2 + mm : Nat) : Int)).bind fun bt449 => (if bt449.2 < 0 then (spec_l4lines.j0 k b (m : Int) bt449.1 bt449.2 true) else (spec_l4lines.j0 k b (m : Int) bt449.1 bt449.2 (decide (bt449.1 > 1000))))) (fun k => by rw [if_neg zq1]) (Ev.bind hr2 ?_)
   have J0t : ∀ (x y z : Int), Ev (fun k => spec_l4lines.j0 k b x y z true) (0, [], false) := fun x y z => by
    refine Ev.step (f := fun _ => some _) (fun k => ?_) (Ev.now _)
    simp only [spec_l4lines.j0]
    rw [if_pos trivial]
   cases hq2 : rdNum 4 r with
   | none =>
    have e2 : readV b.length (none : Option (Nat × List Int)) = (0, -1) := rfl
    rw [e2]
    exact Ev.congr (fun k => if_pos zq15) (J0t _ _ _)
   | some p =>
    obtain ⟨n, r2⟩ := p
    obtain ⟨p1, m2, p2, p3, p4, p5⟩ := rdNum_some 4 r n r2 (by rw [q5]; exact bytes_drop hb _) hq2
    have p5' : r2 = b.drop (2 + mm + m2) := by rw [p5, q5, List.drop_drop]
    have hlr2 : r2.length = b.length - (2 + mm + m2) := by rw [p5', List.length_drop]
    have e2 : readV b.length (some (n, r2)) = ((n : Int), ((2 + mm + m2 : Nat) : Int)) := by
     have hsub : b.length - r2.length = 2 + mm + m2 := by omega
     unfold readV
     simp only
     rw [hsub]
    rw [e2, Option.bind_some]
    simp only
    by_cases hn : n ≤ 1000
    ·rw [if_pos hn]
     have h0 := L0 (m : Int) n 0 n 0 (2 + mm + m2) [] hn zq1 zq1 rfl
     rw [← p5'] at h0
     refine Ev.congr (f := fun k => spec_l4lines.j0 k b (m : Int) (n : Int) ((2 + mm + m2 : Nat) : Int) false) (fun k => by rw [if_neg zq1, decide_eq_false zq1]) (Ev.step (fun k => ?_) (f := fun k => spec_l4lines.l0 k b (m : Int) (n : Int) ((2 + mm + m2 : Nat) : Int) [] ((0 : Nat) : Int)) ?_)
     ·simp only [spec_l4lines.j0]
      rw [if_neg zq12]
      rfl
     ·cases hl3 : rdLines 4 n r2 with
      | none => rw [hl3] at h0; exact h0
      | some l => rw [hl3] at h0; exact h0
    ·rw [if_neg hn]
     exact Ev.congr (fun k => by rw [if_neg zq1, decide_eq_true zq1]) (J0t _ _ _)
theorem bytesOf_inj : ∀ (x y : List Int), (∀ v ∈ x, 0 ≤ v ∧ v ≤ 255) → (∀ v ∈ y, 0 ≤ v ∧ v ≤ 255) → Go.Lib.bytesOf x = Go.Lib.bytesOf y → x = y := by
 intro x
 induction x with
 | nil =>
  intro y _ _ h
  cases y with
  | nil => rfl
  | cons b t => cases h
 | cons a s ih =>
  intro y hx hy h
  cases y with
  | nil => cases h
  | cons b t =>
   have h' : UInt8.ofNat a.toNat :: Go.Lib.bytesOf s = UInt8.ofNat b.toNat :: Go.Lib.bytesOf t := h
   injection h' with h1 h2
   have ha := hx a (List.mem_cons_self ..)
   have hb := hy b (List.mem_cons_self ..)
   have h3 := congrArg UInt8.toNat h1
   rw [UInt8.toNat_ofNat', UInt8.toNat_ofNat'] at h3
   have : a = b := by omega
   rw [this, ih t (fun v hv => hx v (List.mem_cons_of_mem _ hv)) (fun v hv => hy v (List.mem_cons_of_mem _ hv)) h2]
theorem same_bytes (x y : List Int) (hx : ∀ v ∈ x, 0 ≤ v ∧ v ≤ 255) (hy : ∀ v ∈ y, 0 ≤ v ∧ v ≤ 255) : ((strOfNums x).toList == (strOfNums y).toList) = decide (x = y) := by
 rw [Go.Lib.strOfNums_toList, Go.Lib.strOfNums_toList]
 by_cases h : x = y
 ·rw [decide_eq_true h, h]
  simp
 ·rw [decide_eq_false h, beq_eq_false_iff_ne]
  exact fun e => h (bytesOf_inj x y hx hy e)
end Go.Proofs.YtmgmdnmfalepkaaGreat.PDec
