/- Parts of the proof (see the row's own text): DecA, EncA, DecB, EncB. -/
import Derived.Test.YtmgmdnmfalepkaaGreatG00
import Derived.Test.YtmgmdnmfalepkaaGreatG11
import Derived.Test.YtmgmdnmfalepkaaGreatG13
import Derived.Test.YtmgmdnmfalepkaaGreatG5
import Derived.Deep.RegionLaw
import Derived.Deep.RegionHeld3
namespace Go.Proofs.YtmgmdnmfalepkaaGreat.DecA
open Go.RowKit Go.Proofs.YtmgmdnmfalepkaaGreatW.PrintWords Go.Proofs.YtmgmdnmfalepkaaGreatW.PrintMore Go.Proofs.YtmgmdnmfalepkaaGreat.Kit Go.Proofs.YtmgmdnmfalepkaaGreat.PKit Go.Proofs.YtmgmdnmfalepkaaGreat.Ty Go.Proofs.YtmgmdnmfalepkaaGreat.PDec Go.Proofs.YtmgmdnmfalepkaaGreat.Build Go.Proofs.YtmgmdnmfalepkaaGreat.HelpBB
set_option linter.unusedVariables false
def St (w0 w : World) (g : Nat) (r : List Int) (bad : Bool) (f2 f3 : Value) : Prop :=
 w0.heap.size ≤ g ∧ Below w0.heap.size w0 w ∧ ∃ A c, w.heap[g]? = some (.cells #[.slice A r.length c, .bool bad, f2, f3] 114 (0, 0)) ∧ Kd.C (Kd.int .u8) w0 A r.length r ∧ r.length ≤ c
theorem St.below {w0 w W : World} {g : Nat} {r : List Int} {bad : Bool} {f2 f3 : Value} (h : St w0 w g r bad f2 f3) (hb : Below w.heap.size w W) : St w0 W g r bad f2 f3 := by
 obtain ⟨h1, h2, A, c, h3, h4, h5⟩ := h
 exact ⟨h1, below_step h2 hb, A, c, blk_below h3 hb, h4, h5⟩
theorem St.cell {w0 w : World} {g : Nat} {r : List Int} {bad : Bool} {f2 f3 : Value} (h : St w0 w g r bad f2 f3) : w.cell? ⟨g, 1, none⟩ = some (.bool bad) ∧ w.frozen? ⟨g, 1, none⟩ = false ∧ w.cell? ⟨g, 2, none⟩ = some f2 ∧ w.frozen? ⟨g, 2, none⟩ = false ∧ w.cell? ⟨g, 3, none⟩ = some f3 ∧ w.frozen? ⟨g, 3, none⟩ = false := by
 obtain ⟨h1, h2, A, c, h3, h4, h5⟩ := h
 exact ⟨(blk_cell h3 1).trans rfl, blk_frozen h3 1, (blk_cell h3 2).trans rfl, blk_frozen h3 2, (blk_cell h3 3).trans rfl, blk_frozen h3 3⟩
theorem St.put2 {w0 w : World} {g : Nat} {r : List Int} {bad : Bool} {f2 f3 : Value} (h : St w0 w g r bad f2 f3) (u : Value) : St w0 (w.setCell ⟨g, 2, none⟩ u) g r bad u f3 := by
 obtain ⟨h1, h2, A, c, h3, h4, h5⟩ := h
 exact ⟨h1, below_set h2 h1, A, c, blk_put (cs := #[.slice A r.length c, .bool bad, f2, f3]) h3 2 _ rfl, h4, h5⟩
theorem St.put3 {w0 w : World} {g : Nat} {r : List Int} {bad : Bool} {f2 f3 : Value} (h : St w0 w g r bad f2 f3) (u : Value) : St w0 (w.setCell ⟨g, 3, none⟩ u) g r bad f2 u := by
 obtain ⟨h1, h2, A, c, h3, h4, h5⟩ := h
 exact ⟨h1, below_set h2 h1, A, c, blk_put (cs := #[.slice A r.length c, .bool bad, f2, f3]) h3 3 _ rfl, h4, h5⟩
theorem St.lt {w0 w : World} {g : Nat} {r : List Int} {bad : Bool} {f2 f3 : Value} (h : St w0 w g r bad f2 f3) : g < w.heap.size := by
 obtain ⟨h1, h2, A, c, h3, h4, h5⟩ := h
 exact blk_lt h3
theorem St.grown {w0 w w1 : World} {g : Nat} {r : List Int} {bad : Bool} {f2 f3 : Value} (h : St w0 w g r bad f2 f3) (hg : w.grownBy w1 f3.ownBlock) (hne : f3.ownBlock ≠ some g) (hB : Below w0.heap.size w0 w1) : St w0 w1 g r bad f2 f3 := by
 obtain ⟨h1, h2, A, c, h3, h4, h5⟩ := h
 exact ⟨h1, hB, A, c, blk_grown h3 hg (fun e => hne e.symm), h4, h5⟩
def numS (r : List Int) (bad : Bool) : Nat × List Int × Bool := match rdNum 5 r with
 | some q => (q.1, q.2, bad)
 | none => (0, r, true)
def takeS (n : Nat) (r : List Int) (bad : Bool) : List Int × List Int × Bool := if n ≤ r.length then (r.take n, r.drop n, bad) else ([], r, true)
theorem or_add (v x k : Nat) (hv : v < 2 ^ k) (hx : x < 128) (hk : k ≤ 28) : Go.bits .or .i64 (v : Int) ((x * 2 ^ k : Nat) : Int) = ((v + x * 2 ^ k : Nat) : Int) := by
 have hp : 2 ^ k ≤ 2 ^ 28 := Nat.pow_le_pow_right zq15 hk
 have hm : x * 2 ^ k ≤ 127 * 2 ^ 28 := Nat.mul_le_mul zq1 hp
 have hp' : 2 ^ 28 = 268435456 := by decide
 have h1 : (BitVec.ofInt 64 (v : Int)).toNat = v := by
  rw [BitVec.ofInt_natCast, BitVec.toNat_ofNat]; exact Nat.mod_eq_of_lt zq1
 have h2 : (BitVec.ofInt 64 ((x * 2 ^ k : Nat) : Int)).toNat = x * 2 ^ k := by
  rw [BitVec.ofInt_natCast, BitVec.toNat_ofNat]; exact Nat.mod_eq_of_lt zq1
 have h3 : v ||| x * 2 ^ k = v + x * 2 ^ k := by
  have := Nat.two_pow_add_eq_or_of_lt hv x
  rw [Nat.or_comm, Nat.mul_comm x, ← this]
  omega
 show IntKind.i64.wrap ((BitVec.ofInt 64 (v : Int) ||| BitVec.ofInt 64 ((x * 2 ^ k : Nat) : Int)).toNat : Int) = _
 rw [BitVec.toNat_or, h1, h2, h3, IntKind.wrap_i64]
 omega
theorem rdNum_cons (k : Nat) (c : Int) (r : List Int) : rdNum (k + 1) (c :: r) = if c < 128 then some (c.toNat, r) else (rdNum k r).map fun q => (c.toNat % 128 + 128 * q.1, q.2) := rfl
theorem rdNum_nil (k : Nat) : rdNum k [] = none := by cases k <;> rfl
theorem getD_get' (l : List Int) (i : Nat) (h : i < l.length) : l.getD i 0 = l[i] := by simp [List.getD, List.getElem?_eq_getElem h]
theorem and127 (x : Int) (h0 : 0 ≤ x) (h1 : x ≤ 255) : Go.bits .and .u8 x 127 = ((x.toNat % 128 : Nat) : Int) := by
 have key : ∀ m : Fin 256, Go.bits .and .u8 ((m.val : Nat) : Int) 127 = ((m.val % 128 : Nat) : Int) := by decide +kernel
 have := key ⟨x.toNat, zq1⟩
 simp only [Int.toNat_of_nonneg h0] at this
 exact this
theorem step_val (v i : Nat) (x : Int) (hv : v < 2 ^ (7 * i)) (hi : i < 5) (h0 : 0 ≤ x) (h1 : x ≤ 255) :
  Go.bits .or .i64 (v : Int) (wrap64 (wrap64 (Go.bits .and .u8 x 127) * 2 ^ (7 * i))) = ((v + x.toNat % 128 * 2 ^ (7 * i) : Nat) : Int) := by
 have hm : x.toNat % 128 < 128 := Nat.mod_lt _ zq15
 have hk : 7 * i ≤ 28 := by omega
 rw [and127 x h0 h1]
 generalize x.toNat % 128 = m at hm
 generalize 7 * i = k at hv hk
 have hp : 2 ^ k ≤ 268435456 := Nat.le_trans (Nat.pow_le_pow_right zq15 hk) zq15
 have e1 : wrap64 (m : Int) = (m : Int) := wrap_in zq1
 have e2 : (m : Int) * 2 ^ k = ((m * 2 ^ k : Nat) : Int) := by rw [Int.natCast_mul, Int.natCast_pow]; rfl
 have hmul : m * 2 ^ k ≤ 127 * 268435456 := Nat.mul_le_mul zq1 hp
 rw [e1, e2, wrap_in zq1]
 exact or_add v m k hv hm hk
theorem St.cut {w0 w : World} {g : Nat} {A : Option Addr} {c : Nat} {r : List Int} {bad : Bool} {f2 f3 : Value} (hg : w0.heap.size ≤ g) (hB : Below w0.heap.size w0 w) (hk : w.heap[g]? = some (.cells #[.slice A r.length c, .bool bad, f2, f3] 114 (0, 0))) (hC : Kd.C (Kd.int .u8) w0 A r.length r) (hc : r.length ≤ c) (m : Nat) (hm : m ≤ r.length) (A' : Option Addr) (n' c' : Nat) (hA : A' = if c = m then A else A.map (·.add m)) (hn' : n' = r.length - m) (hc' : c' = c - m) :
  St w0 (w.setCell ⟨g, 0, none⟩ (.slice A' n' c')) g (r.drop m) bad f2 f3 := by
 subst hn' hc'
 have hd := Kd.C_drop (c := c) hC hm hc
 have e : (Kd.int .u8 : Kd Int).sz = 1 := rfl
 rw [e, Nat.mul_one, ← hA] at hd
 refine ⟨hg, below_set hB hg, A', c - m, ?_, hd, by rw [List.length_drop]; omega⟩
 refine blk_put (cs := #[.slice A r.length c, .bool bad, f2, f3]) hk 0 _ ?_
 rw [List.length_drop]
 rfl
theorem kept_set (w : World) (g o : Nat) (u : Value) : Kept w (w.setCell ⟨g, o, none⟩ u) (fun k => k = g) := Kept.setCell (S := fun k => k = g) (p := ⟨g, o, none⟩) (Kept.refl w _) (.inl rfl) u
set_option maxRecDepth 100000 in
set_option maxHeartbeats 4000000 in
theorem number_calls (g : Nat) (r : List Int) (bad : Bool) (f2 f3 : Value) (w0 w : World) (hS : St w0 w g r bad f2 f3) (hb : ∀ x ∈ r, 0 ≤ x ∧ x ≤ 255) (hl : r.length ≤ 1048576) :
  Calls Tryz.prog 108 #[.pointer (some ⟨g, 0, none⟩)] w fun e w' => e = .returned (.int .i64 ((numS r bad).1 : Int)) ∧ St w0 w' g (numS r bad).2.1 (numS r bad).2.2 f2 f3 ∧ Kept w w' (fun k => k = g) := by
 obtain ⟨hg0, hB, A, c, hb0, hC, hc⟩ := hS
 have HB := zA hB
 have HK := zA hb0
 have HC := zA hC
 have HY := zA hb
 have h0 : w.cell? ⟨g, 0, none⟩ = some (.slice A r.length c) := (blk_cell hb0 0).trans rfl
 have f0 := blk_frozen hb0 0
 have h1 : w.cell? ⟨g, 1, none⟩ = some (.bool bad) := (blk_cell hb0 1).trans rfl
 have f1 := blk_frozen hb0 1
 clear hB hb0 hC hb
 go_enter Tryz.func108, Tryz.ntmps108
 go_wp2
 go_loopg [3, 11] 5 (fun gg s3 s11 wr => ∃ i v : Nat, i ≤ 5 ∧ i ≤ r.length ∧ 5 - i ≤ gg ∧ s3 = .int .i64 (v : Int) ∧ s11 = .int .i64 (i : Int) ∧ v < 2 ^ (7 * i) ∧ Aside0 (rdNum 5 r = (rdNum (5 - i) (r.drop i)).map fun q => (v + 2 ^ (7 * i) * q.1, q.2)) ∧ wr = w)
 case atStart => exact ⟨0, 0, zq1, zq1, zq1, rfl, rfl, zq15, ⟨by cases h : rdNum 5 r <;> simp [h]⟩, rfl⟩
 case round =>
  obtain ⟨i, v, hi5, hi, hg, rfl, rfl, hv, HR, rfl⟩ := hrel
  by_cases hlt : i < r.length
  ·have hltz : (i : Int) < (r.length : Int) := by omega
   obtain ⟨ad, hA, _⟩ := HC.out.2.2 zq1
   subst hA
   have hcell : wr.cell? (ad.add i) = some (.int .u8 (r.getD i 0)) := pw_cell_below HB.out (cellB HC.out i hlt)
   obtain ⟨c0, c1⟩ := HY.out (r.getD i 0) (by rw [getD_get' r i hlt]; exact List.getElem_mem hlt)
   have HD := zA (getD_drop r i hlt)
   generalize r.getD i 0 = x at hcell c0 c1 HD
   by_cases h5 : i = 5
   ·subst h5
    have HN := zA (show numS r bad = (0, r, true) from by
     unfold numS
     rw [HR.out]
     rfl)
    have hcell5 : wr.cell? ⟨ad.block, ad.off + 5, none⟩ = some (.int .u8 x) := hcell
    have hlt5 : (5 : Int) < (r.length : Int) := by omega
    go_wp2
    go_ret
    rw [HN.out]
    exact ⟨rfl, ⟨hg0, below_set HB.out hg0, some ad, c, blk_put (cs := #[.slice (some ad) r.length c, .bool bad, f2, f3]) HK.out 1 _ rfl, HC.out, hc⟩, kept_set _ _ _ _⟩
   ·have h5z : ¬ (i : Int) = 5 := by omega
    have e5 : 5 - i = (4 - i) + 1 := by omega
    have HV := zA (step_val v i x hv zq1 c0 c1)
    by_cases h128 : x < 128
    ·have HN := zA (show numS r bad = (v + x.toNat % 128 * 2 ^ (7 * i), r.drop (i + 1), bad) from by
      have hr := HR.out
      rw [e5, HD.out, rdNum_cons, if_pos h128, Option.map_some] at hr
      unfold numS
      rw [hr]
      have : x.toNat % 128 = x.toNat := Nat.mod_eq_of_lt zq1
      simp only [this, Nat.mul_comm])
     have HS := zA (St.cut hg0 HB.out HK.out HC.out hc (i + 1) zq1)
     by_cases hcm : c = i + 1
     ·subst hcm
      go_wp2
      go_ret
      rw [HN.out]
      exact ⟨congrArg (fun z => Ending.returned (.int .i64 z)) HV.out, HS.out _ 0 0 zq12 zq1 (Nat.sub_self _).symm, kept_set _ _ _ _⟩
     ·go_wp2
      go_ret
      rw [HN.out]
      exact ⟨congrArg (fun z => Ending.returned (.int .i64 z)) HV.out, HS.out _ _ _ (if_neg hcm).symm rfl rfl, kept_set _ _ _ _⟩
    ·have hr := HR.out
     rw [e5, HD.out, rdNum_cons, if_neg h128, Option.map_map] at hr
     have HR2 := zA hr
     clear hr
     have hp : 2 ^ (7 * (i + 1)) = 2 ^ (7 * i) * 128 := by rw [show 7 * (i + 1) = 7 * i + 7 by omega, Nat.pow_add]
     have HP := zA hp
     clear hp
     go_wp2
     go_roundg (5 - (i + 1))
     case measure => omega
     case rel =>
      refine ⟨i + 1, v + x.toNat % 128 * 2 ^ (7 * i), zq1, zq1, zq1, ?_, by go_num, ?_, ⟨?_⟩, rfl⟩
      ·rw [HV.out]
      ·rw [HP.out]
       have : x.toNat % 128 * 2 ^ (7 * i) ≤ 127 * 2 ^ (7 * i) := Nat.mul_le_mul_right _ zq1
       omega
      ·rw [HR2.out, show 5 - (i + 1) = 4 - i by omega, HP.out]
       refine congrArg (fun f => Option.map f _) (funext fun q => ?_)
       simp only [Function.comp]
       rw [Nat.mul_add, ← Nat.mul_assoc, Nat.mul_comm (x.toNat % 128), Nat.add_assoc]
  ·have hltz : ¬ (i : Int) < (r.length : Int) := by omega
   have HN := zA (show numS r bad = (0, r, true) from by
    have hr := HR.out
    rw [List.drop_of_length_le zq1, rdNum_nil] at hr
    unfold numS
    rw [hr]
    rfl)
   go_wp2
   go_ret
   rw [HN.out]
   exact ⟨rfl, ⟨hg0, below_set HB.out hg0, A, c, blk_put (cs := #[.slice A r.length c, .bool bad, f2, f3]) HK.out 1 _ rfl, HC.out, hc⟩, kept_set _ _ _ _⟩
set_option maxRecDepth 100000 in
set_option maxHeartbeats 4000000 in
theorem take_calls (g n : Nat) (r : List Int) (bad : Bool) (f2 f3 : Value) (w0 w : World) (hS : St w0 w g r bad f2 f3) (hl : r.length ≤ 1048576) :
  Calls Tryz.prog 107 #[.pointer (some ⟨g, 0, none⟩), .int .i64 (n : Int)] w fun e w' => (∃ v, e = .returned v ∧ HelpB.tB.K w0 (takeS n r bad).1 v) ∧ St w0 w' g (takeS n r bad).2.1 (takeS n r bad).2.2 f2 f3 ∧ Kept w w' (fun k => k = g) := by
 obtain ⟨hg0, hB, A, c, hb0, hC, hc⟩ := hS
 have HB := zA hB
 have HK := zA hb0
 have HC := zA hC
 have h0 : w.cell? ⟨g, 0, none⟩ = some (.slice A r.length c) := (blk_cell hb0 0).trans rfl
 have f0 := blk_frozen hb0 0
 have h1 : w.cell? ⟨g, 1, none⟩ = some (.bool bad) := (blk_cell hb0 1).trans rfl
 have f1 := blk_frozen hb0 1
 clear hB hb0 hC
 by_cases hn : n ≤ r.length
 ·have hz : ¬ ((n : Int) > (r.length : Int)) := by omega
  have HN := zA (show takeS n r bad = (r.take n, r.drop n, bad) from if_pos hn)
  have HS := zA (St.cut hg0 HB.out HK.out HC.out hc n hn)
  have HT := zA (show HelpB.tB.K w0 (r.take n) (.slice A n c) from ⟨A, c, by rw [List.length_take, Nat.min_eq_left hn], zq39, by have := Kd.C_take HC.out hn; exact this⟩)
  by_cases hcm : c = n
  ·subst hcm
   go_enter Tryz.func107, Tryz.ntmps107
   go_wp2
   go_ret
   rw [HN.out]
   exact ⟨⟨_, rfl, HT.out⟩, HS.out _ 0 0 zq12 zq1 (Nat.sub_self _).symm, kept_set _ _ _ _⟩
  ·go_enter Tryz.func107, Tryz.ntmps107
   go_wp2
   go_ret
   rw [HN.out]
   exact ⟨⟨_, rfl, HT.out⟩, HS.out _ _ _ (if_neg hcm).symm rfl rfl, kept_set _ _ _ _⟩
 ·have hz : (n : Int) > (r.length : Int) := by omega
  have HN := zA (show takeS n r bad = ([], r, true) from if_neg hn)
  go_enter Tryz.func107, Tryz.ntmps107
  go_wp2
  go_ret
  rw [HN.out]
  exact ⟨⟨_, rfl, none, 0, rfl, Nat.le_refl _, Kd.C_nil _ _⟩, ⟨hg0, below_set HB.out hg0, A, c, blk_put (cs := #[.slice A r.length c, .bool bad, f2, f3]) HK.out 1 _ rfl, HC.out, hc⟩, kept_set _ _ _ _⟩
end Go.Proofs.YtmgmdnmfalepkaaGreat.DecA

namespace Go.Proofs.YtmgmdnmfalepkaaGreat.EncA
open Go.RowKit Go.Proofs.YtmgmdnmfalepkaaGreatW.PrintWords Go.Proofs.YtmgmdnmfalepkaaGreatW.PrintMore Go.Proofs.YtmgmdnmfalepkaaGreat.Kit Go.Proofs.YtmgmdnmfalepkaaGreat.PKit Go.Proofs.YtmgmdnmfalepkaaGreat.Ty Go.Proofs.YtmgmdnmfalepkaaGreat.PEnc Go.Proofs.YtmgmdnmfalepkaaGreat.Build
set_option linter.unusedVariables false
def Enc (w0 w : World) (ge : Nat) (No : Nat → Prop) (o : List Int) : Prop :=
 w0.heap.size ≤ ge ∧ Below w0.heap.size w0 w ∧ ∃ A c, w.heap[ge]? = some (.cells #[.slice A o.length c] 120 (0, 0)) ∧ Kd.R (Kd.int .u8) 5 w w0.heap.size (fun k => k ≠ ge ∧ ¬ No k) (.slice A o.length c) o
theorem or128 (n : Nat) : Go.bits .or .u8 ((n : Int) % 256) 128 = ((n % 128 + 128 : Nat) : Int) := by
 have key : ∀ m : Fin 256, Go.bits .or .u8 ((m.val : Nat) : Int) 128 = ((m.val % 128 + 128 : Nat) : Int) := by decide +kernel
 have := key ⟨n % 256, Nat.mod_lt _ zq15⟩
 have e : ((n % 256 : Nat) : Int) = (n : Int) % 256 := by omega
 simp only [e] at this
 rw [this]
 have : n % 256 % 128 = n % 128 := by omega
 rw [this]
theorem getD_get' (l : List Int) (i : Nat) (h : i < l.length) : l.getD i 0 = l[i] := by simp [List.getD, List.getElem?_eq_getElem h]
def nums (ns : List Nat) : List Int := ns.flatMap varint
theorem nums_take (ns : List Nat) (i : Nat) (h : i < ns.length) : nums (ns.take (i + 1)) = nums (ns.take i) ++ varint (ns.getD i 0) := by
 unfold nums
 rw [List.take_succ_eq_append_getElem h, List.flatMap_append]
 congr 1
 simp [List.getD, List.getElem?_eq_getElem h]
theorem nums_len (ns : List Nat) (hn : ∀ n ∈ ns, n < 4611686018427387904) : (nums ns).length ≤ 9 * ns.length := by
 induction ns with
 | nil => simp [nums]
 | cons n r ih =>
  have h1 := varint_len10 (hn n zq12)
  have h2 := ih (fun m hm => hn m (List.mem_cons_of_mem _ hm))
  have e : nums (n :: r) = varint n ++ nums r := rfl
  rw [e, List.length_append, List.length_cons]
  omega
set_option maxRecDepth 100000 in
set_option maxHeartbeats 4000000 in
theorem numbers_calls (ge gL : Nat) (o : List Int) (ns : List Nat) (w0 w : World) (hE : Enc w0 w ge (fun k => k = gL) o) (hL : w.heap[gL]? = some (.cells (ns.map fun (n : Nat) => Value.int .i64 (n : Int)).toArray 3 (0, 0))) (hge : ge ≠ gL)
  (hn : ∀ n ∈ ns, n < 4611686018427387904) (hl : ns.length ≤ 1000) (ho : o.length ≤ 1099511627776) :
  Calls Tryz.prog 96 #[.pointer (some ⟨ge, 0, none⟩), .slice (some ⟨gL, 0, none⟩) ns.length ns.length] w fun e w' => e = .returned (.tuple #[]) ∧ Enc w0 w' ge (fun k => k = gL) (o ++ nums ns) := by
 have HE := zA hE
 have HL := zA hL
 have HN := zA hn
 clear hE hL hn
 go_enter Tryz.func96, Tryz.ntmps96
 go_wp2
 go_loopg [8] ns.length (fun gg s8 wr => ∃ i : Nat, i ≤ ns.length ∧ ns.length - i ≤ gg ∧ s8 = .int .i64 i ∧ Aside0 (Enc w0 wr ge (fun k => k = gL) (o ++ nums (ns.take i))) ∧ Aside0 (wr.heap[gL]? = some (.cells (ns.map fun (n : Nat) => Value.int .i64 (n : Int)).toArray 3 (0, 0))))
 case atStart => exact ⟨0, zq1, zq1, rfl, ⟨by simpa [nums] using HE.out⟩, HL⟩
 case round =>
  obtain ⟨i, hi, hg, rfl, HE1, HL1⟩ := hrel
  by_cases hlt : i < ns.length
  ·have hltz : (i : Int) < (ns.length : Int) := by omega
   have hcell : wr.cell? ⟨gL, i, none⟩ = some (.int .i64 ((ns.getD i 0 : Nat) : Int)) := (blk_cell HL1.out i).trans (by simp [List.getD, List.getElem?_eq_getElem hlt])
   have hnb := HN.out (ns.getD i 0) (by simp [List.getD, List.getElem?_eq_getElem hlt])
   have HT := zA (nums_take ns i hlt)
   have HNL := zA (nums_len (ns.take i) (fun n hn => HN.out n (List.mem_of_mem_take hn)))
   have HVL := zA (varint_len10 hnb)
   generalize hx : ns.getD i 0 = n at hcell hnb HT HVL
   clear hx
   rename World => wo
   go_wp2
   go_loopg [5] n (fun gg s5 wr => ∃ (m : Nat) (p : List Int), m ≤ gg ∧ m ≤ n ∧ s5 = .int .i64 m ∧ Aside0 (p ++ varint m = o ++ nums (ns.take i) ++ varint n) ∧ Aside0 (Enc w0 wr ge (fun k => k = gL) p) ∧ Aside0 (wr.heap[gL]? = some (.cells (ns.map fun (n : Nat) => Value.int .i64 (n : Int)).toArray 3 (0, 0))))
   case atStart => exact ⟨n, o ++ nums (ns.take i), Nat.le_refl _, Nat.le_refl _, rfl, ⟨rfl⟩, HE1, HL1⟩
   case round =>
    rename World => wi
    obtain ⟨m, p, hm, hmn, rfl, HP, HE2, HL2⟩ := hrel
    have hpl : p.length ≤ 1099511700000 := by
     have h1 := congrArg List.length HP.out
     have h2 := HNL.out
     have h3 := HVL.out
     simp only [List.length_append] at h1
     rw [List.length_take] at h2
     omega
    obtain ⟨hge0, hB, Ao, co, hb, hR⟩ := HE2.out
    have HB0 := zA hB
    have HBK := zA hb
    have HR := zA hR
    have HFR := zA (show ∀ k, wi.heap.size ≤ k → k ≠ ge ∧ ¬ k = gL from fun k hk => ⟨fun e => by have := blk_lt HBK.out; omega, fun e => by have := blk_lt HL2.out; omega⟩)
    have hcg : wi.cell? ⟨ge, 0, none⟩ = some (.slice Ao p.length co) := (blk_cell hb 0).trans rfl
    have hfg := blk_frozen hb 0
    clear hB hb hR
    by_cases h128 : 128 ≤ m
    ·have hz : (128 : Int) ≤ (m : Int) := by omega
     go_wp2_with (first | (at_builtin; refine Kd.R_append (Kd.int .u8) (w0 := w0) w0.heap.size rfl (.tmp 18) (.tmp 22) 25 5 (.int .u8 0) 1 rfl Tryz.underlying25 infoB rfl zq15 zq15 (.slice Ao p.length co) p _ [.int .u8 _] (fun k => k ≠ ge ∧ ¬ k = gL) (fun _ => False) rfl rfl rfl (fun _ h => h.elim) HFR.out HR.out HB0.out HB0.out.size zq1 ?_; rintro v1 w1 hR1 hB1 hg1 hat1; obtain ⟨A1, c1, rfl⟩ := Kd.R_slice hR1; have hb1 := blk_grown HBK.out hg1 (fun e => (HR.out.1 ge e.symm).1 rfl); have hL1 := blk_grown HL2.out hg1 (fun e => (HR.out.1 gL e.symm).2 rfl); have hcg1 : w1.cell? ⟨ge, 0, none⟩ = some (.slice Ao p.length co) := (blk_cell hb1 0).trans rfl; have hfg1 := blk_frozen hb1 0))
     rw [or128 m] at hR1
     go_roundg (m / 128)
     case measure => omega
     case rel =>
      refine ⟨m / 128, p ++ [((m % 128 + 128 : Nat) : Int)], Nat.le_refl _, zq1, ?_, ⟨?_⟩, ⟨hge0, below_set hB1 hge0, A1, c1, ?_, Kd.R_far hR1 (fun k hk => hk.1) _⟩, ⟨blk_far hL1 (fun e => hge e.symm) _⟩⟩
      ·show Value.int .i64 ((m : Int) / 128) = _
       first | rfl | (congr 1; omega)
      ·rw [← HP.out, varint_ge (n := m) zq1, List.append_assoc]
       rfl
      ·refine blk_put (cs := #[.slice Ao p.length co]) hb1 0 _ ?_
       simp only [List.length_append, List.length_singleton]
       rfl
    ·have hz : ¬ (128 : Int) ≤ (m : Int) := by omega
     go_wp2_with (first | (at_builtin; refine Kd.R_append (Kd.int .u8) (w0 := w0) w0.heap.size rfl (.tmp 32) (.tmp 35) 25 5 (.int .u8 0) 1 rfl Tryz.underlying25 infoB rfl zq15 zq15 (.slice Ao p.length co) p _ [.int .u8 _] (fun k => k ≠ ge ∧ ¬ k = gL) (fun _ => False) rfl rfl rfl (fun _ h => h.elim) HFR.out HR.out HB0.out HB0.out.size zq1 ?_; rintro v1 w1 hR1 hB1 hg1 hat1; obtain ⟨A1, c1, rfl⟩ := Kd.R_slice hR1; have hb1 := blk_grown HBK.out hg1 (fun e => (HR.out.1 ge e.symm).1 rfl); have hL1 := blk_grown HL2.out hg1 (fun e => (HR.out.1 gL e.symm).2 rfl); have hcg1 : w1.cell? ⟨ge, 0, none⟩ = some (.slice Ao p.length co) := (blk_cell hb1 0).trans rfl; have hfg1 := blk_frozen hb1 0))
     go_roundg (ns.length - (i + 1))
     case measure => omega
     case rel =>
      have hpn : o ++ nums (ns.take (i + 1)) = p ++ [(m : Int)] := by rw [HT.out, ← List.append_assoc, ← HP.out, varint_lt zq1]
      refine ⟨i + 1, zq1, zq1, by go_num, ⟨?_⟩, ⟨blk_far hL1 (fun e => hge e.symm) _⟩⟩
      rw [hpn]
      refine ⟨hge0, below_set hB1 hge0, A1, c1, ?_, Kd.R_far hR1 (fun k hk => hk.1) _⟩
      refine blk_put (cs := #[.slice Ao p.length co]) hb1 0 _ ?_
      simp only [List.length_append, List.length_singleton]
      rfl
  ·have hltz : ¬ (i : Int) < (ns.length : Int) := by omega
   obtain rfl : i = ns.length := by omega
   go_wp2
   go_end0
   have h1 := HE1.out
   rw [List.take_length] at h1
   exact ⟨rfl, h1⟩
theorem Enc.mono {w0 w : World} {ge : Nat} {No No' : Nat → Prop} {o : List Int} (h : Enc w0 w ge No o) (hn : ∀ k, No' k → No k) : Enc w0 w ge No' o := by
 obtain ⟨h1, h2, A, c, h3, h4⟩ := h
 exact ⟨h1, h2, A, c, h3, Kd.R_mono h4 (fun k hk => ⟨hk.1, fun h => hk.2 (hn k h)⟩)⟩
theorem Enc.list {w0 w : World} {ge : Nat} {o : List Int} (h : Enc w0 w ge (fun _ => False) o) (x : Obj) : Enc w0 (w.alloc x) ge (fun k => k = w.heap.size) o ∧ ge ≠ w.heap.size := by
 obtain ⟨h1, h2, A, c, h3, h4⟩ := h
 refine ⟨⟨h1, below_alloc h2 _, A, c, blk_alloc h3 _, Kd.R_alloc (Kd.R_mono (Kd.R_bound h4) (fun k hk => ⟨hk.1.1, fun e => by have := hk.2.2.1; omega⟩)) _⟩, fun e => by have := blk_lt h3; omega⟩
set_option maxRecDepth 100000 in
set_option maxHeartbeats 4000000 in
theorem bytes_calls (ge : Nat) (o : List Int) (A : Option Addr) (c : Nat) (l : List Int) (w0 w : World) (hE : Enc w0 w ge (fun _ => False) o) (hr : Kd.C (Kd.int .u8) w0 A l.length l) (hl : l.length ≤ 1048576) (ho : o.length ≤ 1099511627776) :
  Calls Tryz.prog 97 #[.pointer (some ⟨ge, 0, none⟩), .slice A l.length c] w fun e w' => e = .returned (.tuple #[]) ∧ Enc w0 w' ge (fun _ => False) (o ++ (varint l.length ++ l)) := by
 have HR0 := zA hr
 obtain ⟨hE1, hne⟩ := hE.list (.cells #[.int .i64 (l.length : Int)] 3)
 have hnum := numbers_calls ge w.heap.size o [l.length] w0 _ hE1 ((heap_alloc_new w _).trans rfl) hne zq35 zq12 ho
 have e1 : nums [l.length] = varint l.length := by simp [nums]
 rw [e1] at hnum
 clear hr hE hE1 hne e1
 go_enter Tryz.func97, Tryz.ntmps97
 go_wp2_with fail
 go_at_call 96
 refine hnum.mono ?_
 rintro e w1 ⟨rfl, hE2⟩
 obtain ⟨hge0, hB, Ao, co, hb, hR⟩ := hE2
 have hvl := varint_len10 (n := l.length) zq1
 generalize hp : o ++ varint l.length = p at hb hR
 have HP := zA hp
 have hpl : p.length ≤ 1099511627800 := by rw [← hp, List.length_append]; omega
 clear hp
 have HB0 := zA hB
 have HBK := zA hb
 have HR := zA hR
 have HFR := zA (show ∀ k, w1.heap.size ≤ k → k ≠ ge ∧ ¬ False from fun k hk => ⟨fun e => by have := blk_lt HBK.out; omega, id⟩)
 have HRF := zA (Kd.R_mono hR (ok' := fun k => k ≠ ge ∧ ¬ False) (fun k hk => ⟨hk.1, id⟩))
 have hcg : w1.cell? ⟨ge, 0, none⟩ = some (.slice Ao p.length co) := (blk_cell hb 0).trans rfl
 have hfg := blk_frozen hb 0
 clear hB hb hR
 go_wp2_with (at_builtin; refine Kd.R_append_rows (Kd.int .u8) (Rr := (Kd.int .u8).K w1) (w0 := w0) w0.heap.size rfl (.tmp 13) (.tmp 14) 25 5 (.int .u8 0) 1 rfl Tryz.underlying25 infoB rfl zq15 zq15 (.slice Ao p.length co) p l A l.length c (fun k => k ≠ ge ∧ ¬ False) (fun _ => False) rfl rfl HRF.out (Kd.C_below HR0.out HB0.out) (fun x cs h => h) (fun _ h => h.elim) HFR.out HB0.out HB0.out.size zq1 ?_; rintro v1 w2 hR1 hB1 hg1 hat1; obtain ⟨A1, c1, rfl⟩ := Kd.R_slice hR1; have hb1 := blk_grown HBK.out hg1 (fun e => (HR.out.1 ge e.symm).1 rfl); have hcg1 : w2.cell? ⟨ge, 0, none⟩ = some (.slice Ao p.length co) := (blk_cell hb1 0).trans rfl; have hfg1 := blk_frozen hb1 0)
 go_end0
 refine ⟨rfl, ?_⟩
 rw [← List.append_assoc, HP.out]
 exact ⟨hge0, below_set hB1 hge0, A1, c1, blk_put (cs := #[.slice Ao p.length co]) hb1 0 _ (by rw [List.length_append]; rfl), Kd.R_far hR1 (fun k hk => hk.1) _⟩
theorem xor_u32 (a b : Nat) (ha : a < 4294967296) (hb : b < 4294967296) : Go.bits .xor .u32 (a : Int) (b : Int) = ((a ^^^ b : Nat) : Int) := by
 have hx : a ^^^ b < 2 ^ 32 := Nat.xor_lt_two_pow zq1 zq1
 have h1 : (BitVec.ofInt 32 (a : Int)).toNat = a := by
  rw [BitVec.ofInt_natCast, BitVec.toNat_ofNat]; exact Nat.mod_eq_of_lt zq1
 have h2 : (BitVec.ofInt 32 (b : Int)).toNat = b := by
  rw [BitVec.ofInt_natCast, BitVec.toNat_ofNat]; exact Nat.mod_eq_of_lt zq1
 have hw : ∀ n : Int, IntKind.u32.wrap n = n % 4294967296 := fun n => by simp [IntKind.wrap, IntKind.bits, IntKind.signed]
 show IntKind.u32.wrap ((BitVec.ofInt 32 (a : Int) ^^^ BitVec.ofInt 32 (b : Int)).toNat : Int) = _
 rw [BitVec.toNat_xor, h1, h2, hw]
 omega
set_option maxRecDepth 100000 in
set_option maxHeartbeats 4000000 in
theorem sum_calls (A : Option Addr) (c : Nat) (l : List Int) (w : World) (hr : Kd.C (Kd.int .u8) w A l.length l) (hb : ∀ x ∈ l, 0 ≤ x ∧ x ≤ 255) (hl : l.length ≤ 1099511627776) :
  Calls Tryz.prog 98 #[.slice A l.length c] w fun e w' => e = .returned (.int .u32 (sum l : Int)) ∧ w' = w := by
 have HR := zA hr
 have HB := zA hb
 clear hr hb
 go_enter Tryz.func98, Tryz.ntmps98
 go_wp2
 go_loopg [3, 8] l.length (fun gg s3 s8 wr => ∃ i : Nat, i ≤ l.length ∧ l.length - i ≤ gg ∧ s3 = .int .u32 (sum (l.take i) : Int) ∧ s8 = .int .i64 i ∧ w = wr)
 case atStart => exact ⟨0, zq1, zq1, rfl, rfl, rfl⟩
 case round =>
  obtain ⟨i, hi, hg, rfl, rfl, hw_⟩ := hrel
  subst hw_
  by_cases hlt : i < l.length
  ·have hltz : (i : Int) < (l.length : Int) := by omega
   obtain ⟨ad, hA, _⟩ := HR.out.2.2 zq1
   subst hA
   have hcell := cellB HR.out i hlt
   have ht : l.take (i + 1) = l.take i ++ [l.getD i 0] := by
    rw [List.take_succ_eq_append_getElem hlt, getD_get' l i hlt]
   obtain ⟨c0, c1⟩ := HB.out (l.getD i 0) (by rw [getD_get' l i hlt]; exact List.getElem_mem hlt)
   have hs := sum_lt (l.take i)
   have hstep : sum (l.take (i + 1)) = mix (sum (l.take i)) (l.getD i 0) := by rw [ht, sum_snoc]
   have HS := zA hstep
   clear hstep ht
   generalize hh : sum (l.take i) = h at hs HS
   generalize hx : l.getD i 0 = x at hcell c0 c1 HS
   clear hh hx
   go_wp2
   go_roundg (l.length - (i + 1))
   case measure => omega
   case rel =>
    refine ⟨i + 1, zq1, zq1, ?_, by go_num, rfl⟩
    have e1 : Go.bits .xor .u32 (h : Int) x = ((h ^^^ x.toNat : Nat) : Int) := by
     have := xor_u32 h x.toNat hs zq1
     rwa [Int.toNat_of_nonneg c0] at this
    show Value.int .u32 (Go.bits .xor .u32 (h : Int) x * 16777619 % 4294967296) = _
    rw [HS.out, e1]
    unfold mix
    first | rfl | (congr 1; done) | (congr 1; omega)
  ·have hltz : ¬ (i : Int) < (l.length : Int) := by omega
   obtain rfl : i = l.length := by omega
   go_wp2
   go_ret
   exact ⟨by first | rfl | simp, rfl⟩
end Go.Proofs.YtmgmdnmfalepkaaGreat.EncA

namespace Go.Proofs.YtmgmdnmfalepkaaGreat.DecB
open Go.RowKit Go.Proofs.YtmgmdnmfalepkaaGreatW.PrintWords Go.Proofs.YtmgmdnmfalepkaaGreatW.PrintMore Go.Proofs.YtmgmdnmfalepkaaGreat.Kit Go.Proofs.YtmgmdnmfalepkaaGreat.PKit Go.Proofs.YtmgmdnmfalepkaaGreat.Ty Go.Proofs.YtmgmdnmfalepkaaGreat.PDec Go.Proofs.YtmgmdnmfalepkaaGreat.Build Go.Proofs.YtmgmdnmfalepkaaGreat.HelpBB Go.Proofs.YtmgmdnmfalepkaaGreat.DecA
set_option linter.unusedVariables false
abbrev Ls (w0 w : World) (v : Value) (ls : List (List Int)) : Prop := OwnRow (kB.K w0) 25 1 w w0.heap.size v ls
theorem Ls.kept {w0 w W : World} {v : Value} {ls : List (List Int)} {g : Nat} (h : Ls w0 w v ls) (hk : Kept w W (fun k => k = g)) (hne : v.ownBlock ≠ some g) : Ls w0 W v ls := by
 obtain ⟨inner, ho, hr⟩ := h
 refine ⟨inner, own_move ho (fun k hk' => hk.2 k ?_ (fun e => hne (by rw [hk', e]))), hr⟩
 obtain ⟨cells, hc⟩ := own_typed ho k hk'
 exact blk_lt hc
def Rel (n : Nat) (b0 : List Int) (j : Nat) (acc : List (List Int)) (r : List Int) (bad : Bool) : Prop :=
 (bad = false → rdLines 5 n b0 = (rdLines 5 (n - j) r).map fun p => (acc ++ p.1, p.2)) ∧ (bad = true → rdLines 5 n b0 = none)
def lineS (r : List Int) (bad : Bool) : List Int × List Int × Bool := takeS (numS r bad).1 (numS r bad).2.1 (numS r bad).2.2
theorem Rel.step {n : Nat} {b0 : List Int} {j : Nat} {acc : List (List Int)} {r : List Int} {bad : Bool} (h : Rel n b0 j acc r bad) (hj : j < n) : Rel n b0 (j + 1) (acc ++ [(lineS r bad).1]) (lineS r bad).2.1 (lineS r bad).2.2 := by
 obtain ⟨h1, h2⟩ := h
 cases bad with
 | true =>
  have hn : (numS r true).2.2 = true := by
   unfold numS
   cases rdNum 5 r <;> rfl
  have ht : (lineS r true).2.2 = true := by
   unfold lineS takeS
   rw [hn]
   split <;> rfl
  rw [ht]
  exact ⟨fun e => Bool.noConfusion e, fun _ => h2 rfl⟩
 | false =>
  have h1 := h1 rfl
  have e1 : n - j = (n - (j + 1)) + 1 := by omega
  rw [e1] at h1
  have e2 : rdLines 5 (n - (j + 1) + 1) r = (rdLine 5 r).bind fun q => (rdLines 5 (n - (j + 1)) q.2).map fun p => (q.1 :: p.1, p.2) := rfl
  rw [e2] at h1
  unfold rdLine at h1
  unfold lineS numS
  cases hq : rdNum 5 r with
  | none =>
   rw [hq] at h1
   have ht : takeS 0 r true = ([], r, true) := by unfold takeS; rw [if_pos (Nat.zero_le _)]; simp
   simp only [ht]
   exact ⟨fun e => Bool.noConfusion e, fun _ => h1⟩
  | some q =>
   obtain ⟨m, t⟩ := q
   rw [hq] at h1
   simp only
   by_cases hm : m ≤ t.length
   ·have ht : takeS m t false = (t.take m, t.drop m, false) := if_pos hm
    rw [ht]
    refine ⟨fun _ => ?_, fun e => Bool.noConfusion e⟩
    rw [h1, Option.bind_some]
    simp only
    rw [if_pos hm, Option.bind_some, Option.map_map]
    refine congrArg (fun f => Option.map f _) (funext fun q => ?_)
    simp
   ·have ht : takeS m t false = ([], t, true) := if_neg hm
    rw [ht]
    refine ⟨fun e => Bool.noConfusion e, fun _ => ?_⟩
    rw [h1, Option.bind_some]
    simp only
    rw [if_neg hm]
    rfl
theorem numS_sub (r : List Int) (bad : Bool) (hb : ∀ x ∈ r, 0 ≤ x ∧ x ≤ 255) : (∃ m, (numS r bad).2.1 = r.drop m) ∧ (numS r bad).1 < 34359738368 := by
 unfold numS
 cases hq : rdNum 5 r with
 | none => exact ⟨⟨0, rfl⟩, by show (0 : Nat) < 34359738368; omega⟩
 | some q =>
  obtain ⟨v, t⟩ := q
  obtain ⟨e1, m, _, _, _, e2⟩ := rdNum_some 5 r v t hb hq
  exact ⟨⟨m, e2⟩, Nat.lt_of_lt_of_le e1 zq15⟩
theorem takeS_sub (n : Nat) (r : List Int) (bad : Bool) : ∃ m, (takeS n r bad).2.1 = r.drop m := by
 unfold takeS
 split
 ·exact ⟨n, rfl⟩
 ·exact ⟨0, rfl⟩
def End (b r : List Int) : Prop := (∀ x ∈ r, 0 ≤ x ∧ x ≤ 255) ∧ r.length ≤ b.length
theorem End.drop {b r r' : List Int} (h : End b r) (hm : ∃ m, r' = r.drop m) : End b r' := by
 obtain ⟨m, rfl⟩ := hm
 exact ⟨bytes_drop h.1 m, by have := h.2; rw [List.length_drop]; omega⟩
theorem two_row (W : World) (g : Nat) (x1 x2 : Int) (h : W.heap[g]? = some (.cells #[.int .u8 x1, .int .u8 x2] 5 (0, 0))) : Kd.C (Kd.int .u8) W (some ⟨g, 0, none⟩) 2 [x1, x2] := by
 obtain ⟨A, c, e, _, hC⟩ := Kd.R_reads (Kd.R_of_own (xs := [x1, x2]) (h1 := fun _ => rfl) (enc := Value.int .u8) (ok := fun _ => True) (base := 0) (w := W) (e := 5) (v := .slice (some ⟨g, 0, none⟩) 2 2) ⟨rfl, .inr ⟨g, 2, _, rfl, Nat.zero_le _, h, zq12, by simp [maxLen], rfl, rfl⟩⟩ (fun _ _ => trivial))
 obtain rfl : some ⟨g, 0, none⟩ = A := by injection e
 exact hC
theorem head_bad (r : List Int) (h : (numS (numS r false).2.1 (numS r false).2.2).2.2 = true) : rdHead 5 r = none := by
 unfold rdHead
 unfold numS at h
 cases hq : rdNum 5 r with
 | none => rfl
 | some q =>
  rw [hq] at h
  rw [Option.bind_some]
  simp only at h ⊢
  cases hp : rdNum 5 q.2 with
  | none => rfl
  | some p => rw [hp] at h; cases h
theorem head_ok (r : List Int) (h : (numS (numS r false).2.1 (numS r false).2.2).2.2 = false) : rdHead 5 r = if (numS (numS r false).2.1 (numS r false).2.2).1 ≤ 1000 then (rdLines 5 (numS (numS r false).2.1 (numS r false).2.2).1 (numS (numS r false).2.1 (numS r false).2.2).2.1).map fun l => (((numS r false).1 : Int), l.1) else none := by
 unfold rdHead
 unfold numS at h ⊢
 cases hq : rdNum 5 r with
 | none =>
  rw [hq] at h
  simp only at h
  cases hp : rdNum 5 r with
  | none => rw [hp] at h; cases h
  | some p => rw [hq] at hp; cases hp
 | some q =>
  rw [hq] at h
  rw [Option.bind_some]
  simp only at h ⊢
  cases hp : rdNum 5 q.2 with
  | none => rw [hp] at h; cases h
  | some p => rfl
def Found (w0 w' : World) (g : Nat) (b : List Int) (e : Ending) : Prop := match implP b with
 | none => e = .returned (.bool false)
 | some q => e = .returned (.bool true) ∧ ∃ r f3, St w0 w' g r false (.int .i64 q.1) f3 ∧ HelpBB.tBB.K w' q.2 f3
set_option maxRecDepth 100000 in
set_option maxHeartbeats 4000000 in
theorem head_calls (g : Nat) (b : List Int) (w0 w : World) (hS : St w0 w g b false (.int .i64 0) (.slice none 0 0)) (hb : ∀ x ∈ b, 0 ≤ x ∧ x ≤ 255) (hl : b.length ≤ 1048576) :
  Calls Tryz.prog 92 #[.pointer (some ⟨g, 0, none⟩)] w fun e w' => Found w0 w' g b e ∧ Below w0.heap.size w0 w' := by
 have HS := zA hS
 have HE := zA (show End b b from ⟨hb, Nat.le_refl _⟩)
 have HTK := zA (take_calls g 2 b false _ _ w0 w hS hl)
 clear hS hb
 go_enter Tryz.func92, Tryz.ntmps92
 go_wp2_with fail
 go_at_call 107
 refine HTK.out.mono ?_
 rintro e w1 ⟨⟨v1, rfl, hv1⟩, hS1, hk1⟩
 obtain ⟨A1, c1, rfl, hc1, hr1⟩ := hv1
 have HC1 := zA hr1
 have HS1 := zA hS1
 have hsz := HS.out.2.1.size
 clear hc1 hr1
 go_wp2_with fail
 have hrow := two_row (w1.alloc (.cells #[.int .u8 84, .int .u8 71] 5)) w1.heap.size 84 71 (heap_alloc_new w1 _)
 have heq := Tryz.bytes_Equal (.slice A1 (takeS 2 b false).1.length c1) (.slice (some ⟨w1.heap.size, 0, none⟩) 2 2) (takeS 2 b false).1 [84, 71] (w1.alloc (.cells #[.int .u8 84, .int .u8 71] 5)) (Kd.C_string Tryz.underlying25 Tryz.underlying5 Tryz.underlying9 (Kd.C_below HC1.out (grew_trans HS1.out.2.1 (below_alloc (Below.refl _ _) _)))) (Kd.C_string Tryz.underlying25 Tryz.underlying5 Tryz.underlying9 hrow)
 have hbq : (Go.Lib.bytesOf (takeS 2 b false).1 == Go.Lib.bytesOf [84, 71]) = decide ((takeS 2 b false).1 = [84, 71]) := by
  have := same_bytes (takeS 2 b false).1 [84, 71] (fun x hx => by
   unfold takeS at hx
   split at hx
   ·exact HE.out.1 x (List.mem_of_mem_take hx)
   ·cases hx) (by intro x hx; simp at hx; omega)
  rw [Go.Lib.strOfNums_toList, Go.Lib.strOfNums_toList] at this
  exact this
 rw [hbq] at heq
 clear hbq hrow
 refine heq.mono ?_
 rintro e w2 ⟨rfl, hw2⟩
 have HS2 := zA (show St w0 w2 g (takeS 2 b false).2.1 (takeS 2 b false).2.2 (.int .i64 0) (.slice none 0 0) from by rw [hw2]; exact HS1.out.below (below_alloc (Below.refl _ _) _))
 clear hw2 heq
 by_cases hT : (takeS 2 b false).1 = [84, 71]
 case neg =>
  have HI := zA (show implP b = none from by
   unfold implP
   rw [if_neg]
   intro h
   apply hT
   unfold takeS
   have : 2 ≤ b.length := by have := congrArg List.length h; simp at this; omega
   rw [if_pos this]
   exact h)
  rw [decide_eq_false hT]
  go_wp2
  go_ret
  refine ⟨?_, HS2.out.2.1⟩
  unfold Found
  rw [HI.out]
  exact rfl
 case pos =>
  have h2 : 2 ≤ b.length ∧ b.take 2 = [84, 71] := by
   unfold takeS at hT
   by_cases h : 2 ≤ b.length
   ·rw [if_pos h] at hT; exact ⟨h, hT⟩
   ·rw [if_neg h] at hT; cases hT
  have ht : takeS 2 b false = (b.take 2, b.drop 2, false) := if_pos h2.1
  have HI := zA (show implP b = rdHead 5 (b.drop 2) from if_pos h2.2)
  rw [decide_eq_true hT]
  have hS2 := HS2.out
  rw [ht] at hS2
  have HS3 := zA hS2
  have HE3 := zA (HE.out.drop (r' := b.drop 2) ⟨2, rfl⟩)
  clear ht h2 hT hS2 HS2 HS1 HC1 HTK
  have hbd := zA (head_bad (b.drop 2))
  have hok := zA (head_ok (b.drop 2))
  have q1 := zA (numS_sub (b.drop 2) false HE3.out.1)
  have n1 := zA (number_calls g (b.drop 2) false _ _ w0 w2 HS3.out HE3.out.1 (by have := HE3.out.2; omega))
  generalize hN1 : numS (b.drop 2) false = N1 at hbd hok q1 n1
  have HE4 := zA (HE3.out.drop q1.out.1)
  go_wp2_with fail
  go_at_call 108
  refine n1.out.mono ?_
  rintro e w3 ⟨rfl, hS3, hk3⟩
  have HS4 := zA (hS3.put2 (.int .i64 (N1.1 : Int)))
  obtain ⟨_, _, ca2, fa2, ca3, fa3⟩ := hS3.cell
  have q2 := zA (numS_sub N1.2.1 N1.2.2 HE4.out.1)
  have n2 := zA (number_calls g N1.2.1 N1.2.2 _ _ w0 _ HS4.out HE4.out.1 (by have := HE4.out.2; omega))
  generalize hN2 : numS N1.2.1 N1.2.2 = N2 at hbd hok q2 n2
  have HE5 := zA (HE4.out.drop q2.out.1)
  have hn2 := q2.out.2
  clear hS3 hk3
  go_wp2_with fail
  go_at_call 108
  refine n2.out.mono ?_
  rintro e w4 ⟨rfl, hS5, hk5⟩
  have HS5 := zA hS5
  obtain ⟨cb1, fb1, cb2, fb2, cb3, fb3⟩ := hS5.cell
  clear ca2 fa2 ca3 fa3 hS5 hk5 n1 n2 HS4 HS3 hN1 hN2 HE3 HE4 q1 q2
  obtain ⟨n, r0, bad0⟩ := N2
  have hbd : Aside0 (bad0 = true → rdHead 5 (b.drop 2) = none) := hbd
  have hok : Aside0 (bad0 = false → rdHead 5 (b.drop 2) = if n ≤ 1000 then (rdLines 5 n r0).map fun l => ((N1.1 : Int), l.1) else none) := hok
  have HS5 : Aside0 (St w0 w4 g r0 bad0 (.int .i64 (N1.1 : Int)) (.slice none 0 0)) := HS5
  have HE5 : Aside0 (End b r0) := HE5
  have hn2 : n < 34359738368 := hn2
  have cb1 : w4.cell? ⟨g, 1, none⟩ = some (.bool bad0) := cb1
  cases bad0 with
  | true =>
   go_wp2
   go_ret
   refine ⟨?_, HS5.out.2.1⟩
   unfold Found
   rw [HI.out, hbd.out zq12]
   exact rfl
  | false =>
   by_cases hn : n ≤ 1000
   case neg =>
    have hnz : (n : Int) > 1000 := by omega
    go_wp2
    go_ret
    refine ⟨?_, HS5.out.2.1⟩
    unfold Found
    rw [HI.out, hok.out zq12, if_neg hn]
    exact rfl
   case pos =>
    have hnz : ¬ (n : Int) > 1000 := by omega
    have HI2 := zA (HI.out.trans ((hok.out zq12).trans (if_pos hn)))
    clear hok hbd HI
    go_wp2
    go_loopg [32] n (fun gg s32 wr => ∃ (j : Nat) (acc : List (List Int)) (r : List Int) (bad : Bool) (A3 : Option Addr) (c3 : Nat), j ≤ n ∧ n - j ≤ gg ∧ s32 = .int .i64 (j : Int) ∧ acc.length = j ∧ Aside0 (St w0 wr g r bad (.int .i64 (N1.1 : Int)) (.slice A3 acc.length c3)) ∧ Aside0 (Ls w0 wr (.slice A3 acc.length c3) acc) ∧ Aside0 ((Value.slice A3 acc.length c3).ownBlock ≠ some g) ∧ Aside0 (Rel n r0 j acc r bad) ∧ Aside0 (End b r))
    case atStart => exact ⟨0, [], r0, false, none, 0, zq1, zq1, rfl, rfl, HS5, ⟨⟨[], ⟨rfl, .inl ⟨rfl, rfl⟩⟩, Reps.none _ _⟩⟩, ⟨by simp [Value.ownBlock]⟩, ⟨fun _ => by cases rdLines 5 n r0 <;> simp, fun e => Bool.noConfusion e⟩, HE5⟩
    case round =>
     obtain ⟨j, acc, r, bad, A3, c3, hj, hg, rfl, ha, HS6, HL6, HN6, HR6, HE6⟩ := hrel
     have HAL := zA ha
     clear ha
     obtain ⟨d1, e1, d2, e2, d3, e3⟩ := HS6.out.cell
     by_cases hlt : j < n
     ·have hltz : (j : Int) < (n : Int) := by omega
      have q1 := zA (numS_sub r bad HE6.out.1)
      have q1n := q1.out.2
      have HR7 := zA (HR6.out.step hlt)
      have HE7 := zA (show End b (lineS r bad).2.1 from (HE6.out.drop q1.out.1).drop (takeS_sub (numS r bad).1 (numS r bad).2.1 (numS r bad).2.2))
      have hnum : ∀ W, Below wr.heap.size wr W → Calls Tryz.prog 108 #[.pointer (some ⟨g, 0, none⟩)] W fun e w' => e = .returned (.int .i64 ((numS r bad).1 : Int)) ∧ St w0 w' g (numS r bad).2.1 (numS r bad).2.2 (.int .i64 (N1.1 : Int)) (.slice A3 acc.length c3) ∧ Kept W w' (fun k => k = g) := fun W hW => number_calls g r bad _ _ w0 W (HS6.out.below hW) HE6.out.1 (by have := HE6.out.2; omega)
      have htk : ∀ W, St w0 W g (numS r bad).2.1 (numS r bad).2.2 (.int .i64 (N1.1 : Int)) (.slice A3 acc.length c3) → Calls Tryz.prog 107 #[.pointer (some ⟨g, 0, none⟩), .int .i64 ((numS r bad).1 : Int)] W fun e w' => (∃ v, e = .returned v ∧ HelpB.tB.K w0 (lineS r bad).1 v) ∧ St w0 w' g (lineS r bad).2.1 (lineS r bad).2.2 (.int .i64 (N1.1 : Int)) (.slice A3 acc.length c3) ∧ Kept W w' (fun k => k = g) := fun W hW => take_calls g (numS r bad).1 (numS r bad).2.1 (numS r bad).2.2 _ _ w0 W hW (by have := (HE6.out.drop q1.out.1).2; omega)
      have HNUM := zA hnum
      have HTK := zA htk
      clear hnum htk
      generalize (numS r bad).1 = m at HNUM HTK q1n
      generalize (numS r bad).2.1 = rn at HNUM HTK
      generalize (numS r bad).2.2 = bn at HNUM HTK
      generalize lineS r bad = L at HR7 HTK HE7
      have HNE : (Value.slice A3 acc.length c3).ownBlock ≠ some g := HN6.out
      go_wp2_with fail
      go_region_law (first | (go_simp; go_at_call 108; refine (HNUM.out _ zq3).mono ?_; rintro e w5 ⟨rfl, hs5, hk5⟩; have HK5 := zA (show Kept wr w5 (fun k => k = g) from (Kept.of_below zq3 _).then_ hk5 (fun _ h => .inl h)); have HS7 := zA hs5; obtain ⟨_, _, _, _, f3c, f3f⟩ := hs5.cell; clear hs5 hk5) | (go_simp; go_at_call 107; refine (HTK.out _ (HS7.out.below zq3)).mono ?_; rintro e w6 ⟨⟨v6, rfl, hv6⟩, hs6, hk6⟩; have HK6 := zA (show Kept wr w6 (fun k => k = g) from (HK5.out.below zq3).then_ hk6 (fun _ h => .inl h)); have HS8 := zA hs6; obtain ⟨_, _, _, _, g3c, g3f⟩ := hs6.cell; have HV6 := zA hv6; obtain ⟨A6, c6, rfl, _, _⟩ := hv6; obtain ⟨_, _, _, _, g4c, g4f⟩ := (HS8.out.below (below_alloc (Below.refl _ _) (.cells #[.slice A6 L.1.length c6] 25))).cell; clear hs6 hk6) | (refine OwnRow.append_step (R := kB.K w0) (w0 := w0) w0.heap.size (by first | rfl | simp [Region.wanted]) (.tmp 38) (.tmp 47) 22 25 (.slice none 0 0) 1 24 zq16 Tryz.underlying22 infoBB rfl zq15 zq1 (.slice A3 acc.length c3) acc L.1 [.slice A6 L.1.length c6] zq28 zq28 ?hp rfl ?h1 ?HO ?HB ?hb (by have := HAL.out; omega) ?_; (case hp => (obtain ⟨Ax, cx, ex, hx1, hx2⟩ := HV6.out; exact ⟨Ax, cx, by rw [ex], hx1, hx2⟩)); (case h1 => intro u hu; rw [List.mem_singleton.1 hu]; rfl); (case HO => exact Ls.kept HL6.out (HK6.out.below zq3) HNE); (case HB => exact below_step HS8.out.2.1 zq3); (case hb => exact (below_step HS8.out.2.1 zq3).size); intro v9 w9 hO9 hB9 hg9 hat9; obtain ⟨A9, c9, rfl, _⟩ := OwnRow.slice_ hO9; have HS9 := zA (St.grown (HS8.out.below zq3) hg9 HNE hB9); have HO9 := zA hO9; have HA9 := zA hat9; have HX9 := zA hg9.size; obtain ⟨_, _, _, _, i3c, i3f⟩ := HS9.out.cell; clear hO9 hB9 hg9 hat9))
      all_goals
       go_wp2
       go_roundg (n - (j + 1))
       case measure => omega
       case rel =>
        have HN9 : (Value.slice A9 (acc ++ [L.1]).length c9).ownBlock ≠ some g := by
         rcases HA9.out with h | ⟨b', h, hb'⟩
         ·rw [h]; exact HNE
         ·rw [h]
          intro e
          injection e with e
          have h1 := HS8.out.lt
          have h2 : w6.heap.size ≤ b' := hb'
          omega
        refine ⟨j + 1, acc ++ [L.1], L.2.1, L.2.2, A9, c9, zq1, zq1, by go_num, by rw [List.length_append, HAL.out]; rfl, ⟨?_⟩, ⟨?_⟩, ⟨HN9⟩, HR7, HE7⟩
        ·have h1 := HS9.out.put3 (.slice A9 (acc ++ [L.1]).length c9)
         rw [List.length_append] at h1 ⊢
         exact h1
        ·have h1 := Ls.kept HO9.out (kept_set w9 g 3 (.slice A9 (acc ++ [L.1]).length c9)) HN9
         rw [List.length_append] at h1 ⊢
         exact h1
     ·have hltz : ¬ (j : Int) < (n : Int) := by omega
      obtain rfl : j = n := by omega
      cases bad with
      | true =>
       go_wp2
       go_ret
       refine ⟨?_, HS6.out.2.1⟩
       unfold Found
       rw [HI2.out, HR6.out.2 zq12]
       exact rfl
      | false =>
       have hr := HR6.out.1 rfl
       rw [Nat.sub_self] at hr
       have e0 : rdLines 5 0 r = some ([], r) := rfl
       rw [e0, Option.map_some, List.append_nil] at hr
       have HR8 := zA (show implP b = some ((N1.1 : Int), acc) from by rw [HI2.out, hr]; rfl)
       clear hr e0
       have hK : HelpBB.tBB.K wr acc (.slice A3 acc.length c3) := by
        obtain ⟨A', c', e', hl', hR'⟩ := OwnRow.reads HL6.out
        exact ⟨A', c', e', hl', ReadsRow.imp_ hR' (Below.refl _ _) (fun p c h => kB.K_below HS6.out.2.1 h)⟩
       have HK := zA hK
       clear hK
       go_wp2
       go_ret
       refine ⟨?_, HS6.out.2.1⟩
       unfold Found
       rw [HR8.out]
       exact ⟨rfl, r, _, HS6.out, HK.out⟩
end Go.Proofs.YtmgmdnmfalepkaaGreat.DecB

namespace Go.Proofs.YtmgmdnmfalepkaaGreat.EncB
open Go.RowKit Go.Proofs.YtmgmdnmfalepkaaGreatW.PrintWords Go.Proofs.YtmgmdnmfalepkaaGreatW.PrintMore Go.Proofs.YtmgmdnmfalepkaaGreat.Kit Go.Proofs.YtmgmdnmfalepkaaGreat.PKit Go.Proofs.YtmgmdnmfalepkaaGreat.Ty Go.Proofs.YtmgmdnmfalepkaaGreat.PSeg Go.Proofs.YtmgmdnmfalepkaaGreat.PEnc Go.Proofs.YtmgmdnmfalepkaaGreat.Build Go.Proofs.YtmgmdnmfalepkaaGreat.EncA Go.Proofs.YtmgmdnmfalepkaaGreat.HelpBB
set_option linter.unusedVariables false
theorem nums1 (a : Nat) : EncA.nums [a] = varint a := by simp [EncA.nums]
theorem nums2 (a b : Nat) : EncA.nums [a, b] = varint a ++ varint b := by simp [EncA.nums]
def lastK (K : List Int) (j : Nat) : Int := if j = 0 then 0 else K.getD (j - 1) 0
def lastP (b : Int) (P : List Int) (i : Nat) : Int := if i = 0 then b else P.getD (i - 1) 0
theorem gap_last (K : List Int) (j : Nat) : gap K j = K.getD j 0 - lastK K j := by
 unfold gap lastK
 by_cases h : j = 0
 ·subst h; rw [if_pos rfl, if_pos rfl]; omega
 ·rw [if_neg h, if_neg h]
theorem del_last (b : Int) (P : List Int) (i : Nat) : del b P i = P.getD i 0 - lastP b P i := by
 unfold del lastP
 by_cases h : i = 0
 ·subst h; rw [if_pos rfl, if_pos rfl]
 ·rw [if_neg h, if_neg h]
theorem Enc.below {w0 w : World} {ge : Nat} {No : Nat → Prop} {o : List Int} (h : Enc w0 w ge No o) : Below w0.heap.size w0 w := h.2.1
theorem one_number (ge : Nat) (x : Int) (a : Nat) (o : List Int) (w0 w : World) (h : Enc w0 w ge (fun _ => False) o) (hx : x = (a : Int)) (ha : a < 4611686018427387904) (ho : o.length ≤ 1099511627776) :
  Calls Tryz.prog 96 #[.pointer (some ⟨ge, 0, none⟩), .slice (some ⟨w.heap.size, 0, none⟩) 1 1] (w.alloc (.cells #[.int .i64 x] 3)) fun e w' => e = .returned (.tuple #[]) ∧ Enc w0 w' ge (fun _ => False) (o ++ varint a) := by
 subst hx
 obtain ⟨h1, h2⟩ := h.list (.cells #[.int .i64 (a : Int)] 3)
 refine (numbers_calls ge w.heap.size o [a] w0 _ h1 ((heap_alloc_new w _).trans rfl) h2 (by simpa using ha) zq12 ho).mono ?_
 rintro e w' ⟨rfl, h3⟩
 rw [nums1] at h3
 exact ⟨rfl, h3.mono (fun _ h => h.elim)⟩
theorem two_numbers (ge : Nat) (x y : Int) (a b : Nat) (o : List Int) (w0 w : World) (h : Enc w0 w ge (fun _ => False) o) (hx : x = (a : Int)) (hy : y = (b : Int)) (ha : a < 4611686018427387904) (hb : b < 4611686018427387904) (ho : o.length ≤ 1099511627776) :
  Calls Tryz.prog 96 #[.pointer (some ⟨ge, 0, none⟩), .slice (some ⟨w.heap.size, 0, none⟩) 2 2] (w.alloc (.cells #[.int .i64 x, .int .i64 y] 3)) fun e w' => e = .returned (.tuple #[]) ∧ Enc w0 w' ge (fun _ => False) (o ++ (varint a ++ varint b)) := by
 subst hx hy
 obtain ⟨h1, h2⟩ := h.list (.cells #[.int .i64 (a : Int), .int .i64 (b : Int)] 3)
 refine (numbers_calls ge w.heap.size o [a, b] w0 _ h1 ((heap_alloc_new w _).trans rfl) h2 (by simpa using ⟨ha, hb⟩) zq12 ho).mono ?_
 rintro e w' ⟨rfl, h3⟩
 rw [nums2] at h3
 exact ⟨rfl, h3.mono (fun _ h => h.elim)⟩
theorem four_row (W : World) (g : Nat) (x1 x2 x3 x4 : Int) (h : W.heap[g]? = some (.cells #[.int .u8 x1, .int .u8 x2, .int .u8 x3, .int .u8 x4] 5 (0, 0))) : Kd.C (Kd.int .u8) W (some ⟨g, 0, none⟩) 4 [x1, x2, x3, x4] := by
 obtain ⟨A, c, e, _, hC⟩ := Kd.R_reads (Kd.R_of_own (xs := [x1, x2, x3, x4]) (h1 := fun _ => rfl) (enc := Value.int .u8) (ok := fun _ => True) (base := 0) (w := W) (e := 5) (v := .slice (some ⟨g, 0, none⟩) 4 4) ⟨rfl, .inr ⟨g, 4, _, rfl, Nat.zero_le _, h, zq12, by simp [maxLen], rfl, rfl⟩⟩ (fun _ _ => trivial))
 obtain rfl : some ⟨g, 0, none⟩ = A := by injection e
 exact hC
set_option maxRecDepth 100000 in
set_option maxHeartbeats 4000000 in
theorem encoded_calls (bn : Nat) (ls : List (List Int)) (K : List Int) (Ps : List (List Int)) (A1 A2 A3 : Option Addr) (c1 c2 c3 : Nat) (w : World) (h1 : HelpBB.tBB.K w ls (.slice A1 ls.length c1)) (h2 : HelpI.tI.K w K (.slice A2 K.length c2)) (h3 : HelpII.tII.K w Ps (.slice A3 Ps.length c3))
  (hok : EncOk ((bn : Int), ls, K, Ps)) (hby : Bytes ls) :
  Calls Tryz.prog 75 #[.agg #[.int .i64 (bn : Int), .slice A1 ls.length c1, .slice A2 K.length c2, .slice A3 Ps.length c3]] w fun e w' => ∃ v', e = .returned v' ∧ HelpB.tB.M w' w.heap.size (fun _ => True) (code ((bn : Int), ls, K, Ps)) v' ∧ Grew w w' := by
 have huI := Tryz.underlying59
 have huE := Tryz.underlying120
 have hb1 : (bn : Int) ≤ 1000 := hok.b1
 have hl1 : ls.length ≤ 1000 := hok.l1
 have ht1 : totalB ls ≤ 20000 := hok.t1
 have hk1 : K.length ≤ 20000 := hok.k1
 have HPK := zA (show Ps.length = K.length from hok.pk)
 obtain ⟨B1, d1, e1, hc1, hr1⟩ := h1
 obtain ⟨rfl, rfl⟩ : A1 = B1 ∧ c1 = d1 := by injection e1 with q1 q2 q3; exact ⟨q1, q3⟩
 have R1 := zA hr1
 clear hc1 hr1 e1
 obtain ⟨B2, d2, e2, hc2, hr2⟩ := h2
 obtain ⟨rfl, rfl⟩ : A2 = B2 ∧ c2 = d2 := by injection e2 with q1 q2 q3; exact ⟨q1, q3⟩
 have R2 := zA hr2
 clear hc2 hr2 e2
 obtain ⟨B3, d3, e3, hc3, hr3⟩ := h3
 obtain ⟨rfl, rfl⟩ : A3 = B3 ∧ c3 = d3 := by injection e3 with q1 q2 q3; exact ⟨q1, q3⟩
 have R3 := zA hr3
 clear hc3 hr3 e3
 have HOK := zA hok
 have HBY := zA hby
 clear hok hby
 have HHL := zA (head_len (b := (bn : Int)) (ls := ls) hb1 hl1)
 go_enter Tryz.func75, Tryz.ntmps75
 go_wp2_with (first | ((with_reducible refine gate_dst (N := 1) rfl ?_); refine box_event ?hg (N := 1) ?hd (cs := #[.int .i64 (bn : Int), .slice A1 ls.length c1, .slice A2 K.length c2, .slice A3 Ps.length c3]) (t := 59) ?hr ?_; (case hd => rfl); (case hg => rfl); (case hr => first | (go_simp; done) | (go_simp; rfl)); intro gs hg_ w1 hbx hbb; have BKs := zA hbx; have HB := zA hbb; have GS := zA (show w.heap.size ≤ gs from Nat.le_of_eq hg_.symm); clear hg_; have hc0 : w1.cell? ⟨gs, 0, none⟩ = some (.int .i64 (bn : Int)) := (blk_cell hbx 0).trans rfl; have fhc0 := blk_frozen hbx 0; have hc1 : w1.cell? ⟨gs, 1, none⟩ = some (.slice A1 ls.length c1) := (blk_cell hbx 1).trans rfl; have fhc1 := blk_frozen hbx 1; have hc2 : w1.cell? ⟨gs, 2, none⟩ = some (.slice A2 K.length c2) := (blk_cell hbx 2).trans rfl; have fhc2 := blk_frozen hbx 2; have hc3 : w1.cell? ⟨gs, 3, none⟩ = some (.slice A3 Ps.length c3) := (blk_cell hbx 3).trans rfl; have fhc3 := blk_frozen hbx 3; clear hbx hbb) | ((with_reducible refine gate_dst (N := 15) rfl ?_); refine box_event ?hg (N := 15) ?hd (cs := #[.slice (some ⟨w1.heap.size, 0, none⟩) 2 2]) (t := 120) ?hr ?_; (case hd => rfl); (case hg => rfl); (case hr => first | (go_simp; done) | (go_simp; rfl)); intro ge hg_ w3 hbx hbb; have BKe := zA hbx; have HB3 := zA hbb; have GE := zA (show w1.heap.size + 1 ≤ ge from by rw [hg_]; simp); clear hg_; have hz0 := blk_below (w := w1.alloc (.cells #[.int .u8 84, .int .u8 71] 5)) (g := gs) (blk_alloc BKs.out _) hbb; have hd0 : w3.cell? ⟨gs, 0, none⟩ = some (.int .i64 (bn : Int)) := (blk_cell hz0 0).trans rfl; have fhd0 := blk_frozen hz0 0; have hd1 : w3.cell? ⟨gs, 1, none⟩ = some (.slice A1 ls.length c1) := (blk_cell hz0 1).trans rfl; have fhd1 := blk_frozen hz0 1; have hd2 : w3.cell? ⟨gs, 2, none⟩ = some (.slice A2 K.length c2) := (blk_cell hz0 2).trans rfl; have fhd2 := blk_frozen hz0 2; have hd3 : w3.cell? ⟨gs, 3, none⟩ = some (.slice A3 Ps.length c3) := (blk_cell hz0 3).trans rfl; have fhd3 := blk_frozen hz0 3; clear hbx hbb))
 have HG := zA (show w.heap.size ≤ w1.heap.size from HB.out.size)
 have hrow : w3.heap[w1.heap.size]? = some (.cells #[.int .u8 84, .int .u8 71] 5 (0, 0)) := blk_below (heap_alloc_new w1 _) HB3.out
 have hE0 : Enc w1 w3 ge (fun _ => False) [84, 71] := by
  have hge := GE.out
  exact ⟨zq1, grew_trans (below_alloc (Below.refl _ _) _) HB3.out, some ⟨w1.heap.size, 0, none⟩, 2, BKe.out, Kd.R_of_own (xs := [(84 : Int), 71]) ⟨rfl, .inr ⟨w1.heap.size, 2, #[.int .u8 84, .int .u8 71], rfl, Nat.le_refl _, hrow, zq12, by simp [maxLen], rfl, rfl⟩⟩ (fun k hk => ⟨fun e => by have e1 : w1.heap.size = k := (by simpa [Value.ownBlock] using hk); omega, id⟩)⟩
 clear hrow
 refine (two_numbers ge _ _ bn ls.length [84, 71] w1 w3 hE0 rfl rfl zq1 zq1 zq12).mono ?_
 rintro e w4 ⟨rfl, hE4⟩
 have eh : [(84 : Int), 71] ++ (varint bn ++ varint ls.length) = head (bn : Int) ls := by simp [head]
 rw [eh] at hE4
 clear eh hE0
 have hbs := blk_below (g := gs) BKs.out (Enc.below hE4)
 have h40 : w4.cell? ⟨gs, 0, none⟩ = some (.int .i64 (bn : Int)) := (blk_cell hbs 0).trans rfl; have fh40 := blk_frozen hbs 0; have h41 : w4.cell? ⟨gs, 1, none⟩ = some (.slice A1 ls.length c1) := (blk_cell hbs 1).trans rfl; have fh41 := blk_frozen hbs 1; have h42 : w4.cell? ⟨gs, 2, none⟩ = some (.slice A2 K.length c2) := (blk_cell hbs 2).trans rfl; have fh42 := blk_frozen hbs 2; have h43 : w4.cell? ⟨gs, 3, none⟩ = some (.slice A3 Ps.length c3) := (blk_cell hbs 3).trans rfl; have fh43 := blk_frozen hbs 3
 clear hbs
 go_wp2
 go_loopg [27] ls.length (fun gg s27 wr => ∃ i : Nat, i ≤ ls.length ∧ ls.length - i ≤ gg ∧ s27 = .int .i64 i ∧ Aside0 (Enc w1 wr ge (fun _ => False) (head (bn : Int) ls ++ flat (line ls) i)))
 case atStart => exact ⟨0, zq1, zq1, rfl, ⟨by have e : flat (line ls) 0 = [] := rfl; rw [e, List.append_nil]; exact hE4⟩⟩
 case round =>
  clear hE4
  obtain ⟨i, hi, hg, rfl, HE⟩ := hrel
  have HW := zA (grew_trans HB.out (Enc.below HE.out))
  by_cases hlt : i < ls.length
  ·have hltz : (i : Int) < (ls.length : Int) := by omega
   obtain ⟨ad, u, rfl, hcell0, hK⟩ := get_one (d := kB) rfl R1.out [] i hlt
   obtain ⟨A', c', e', hc', hr'⟩ := hK
   obtain rfl : u = .slice A' (ls.getD i []).length c' := by injection e'
   have hcell : wr.cell? (ad.add i) = some (.slice A' (ls.getD i []).length c') := (HW.out.cell (World.block_lt_of_cell? w _ hcell0)).trans hcell0
   have HL := zA (Kd.C_below hr' HB.out)
   have hgl := getD_len ls i
   have hll := lines_len HOK.out i (by show i ≤ ls.length; omega)
   have hll' : (head (bn : Int) ls ++ flat (line ls) i).length ≤ 1099511627776 := by have h1 := HHL.out; have h2 : (flat (line ls) i).length ≤ 20010000 := hll; rw [List.length_append]; omega
   have hnext : head (bn : Int) ls ++ flat (line ls) (i + 1) = head (bn : Int) ls ++ flat (line ls) i ++ (varint (ls.getD i []).length ++ ls.getD i []) := by rw [flat_succ, ← List.append_assoc]; rfl
   have HNX := zA hnext
   clear hr' e' hcell0 hll hnext
   generalize hx : ls.getD i [] = l at hcell HL hgl HNX hc'
   clear hx
   have hby := bytes_calls ge _ A' c' l w1 wr HE.out HL.out zq1 hll'
   go_wp2_with (go_at_call 97; refine hby.mono ?_; rintro e w5 ⟨rfl, hE5⟩)
   go_roundg (ls.length - (i + 1))
   case measure => omega
   case rel => exact ⟨i + 1, zq1, zq1, by go_num, ⟨by rw [HNX.out]; exact hE5⟩⟩
  ·have hltz : ¬ (i : Int) < (ls.length : Int) := by omega
   obtain rfl : i = ls.length := by omega
   rename World => w6
   have hll := lines_len HOK.out ls.length (Nat.le_refl _)
   have HLL := zA (show (head (bn : Int) ls ++ flat (line ls) ls.length).length ≤ 20010020 from by have h1 := HHL.out; have h2 : (flat (line ls) ls.length).length ≤ 20010000 := hll; rw [List.length_append]; omega)
   clear hll
   have hbs := blk_below (g := gs) BKs.out (Enc.below HE.out)
   have h60 : w6.cell? ⟨gs, 0, none⟩ = some (.int .i64 (bn : Int)) := (blk_cell hbs 0).trans rfl; have fh60 := blk_frozen hbs 0; have h61 : w6.cell? ⟨gs, 1, none⟩ = some (.slice A1 ls.length c1) := (blk_cell hbs 1).trans rfl; have fh61 := blk_frozen hbs 1; have h62 : w6.cell? ⟨gs, 2, none⟩ = some (.slice A2 K.length c2) := (blk_cell hbs 2).trans rfl; have fh62 := blk_frozen hbs 2; have h63 : w6.cell? ⟨gs, 3, none⟩ = some (.slice A3 Ps.length c3) := (blk_cell hbs 3).trans rfl; have fh63 := blk_frozen hbs 3
   clear hbs
   go_wp2_with (go_at_call 96; refine (one_number ge _ K.length _ w1 w6 HE.out rfl zq1 (by have := HLL.out; omega)).mono ?_; rintro e w7 ⟨rfl, hE7⟩; have hbs := blk_below (g := gs) BKs.out (Enc.below hE7); have h70 : w7.cell? ⟨gs, 0, none⟩ = some (.int .i64 (bn : Int)) := (blk_cell hbs 0).trans rfl; have fh70 := blk_frozen hbs 0; have h71 : w7.cell? ⟨gs, 1, none⟩ = some (.slice A1 ls.length c1) := (blk_cell hbs 1).trans rfl; have fh71 := blk_frozen hbs 1; have h72 : w7.cell? ⟨gs, 2, none⟩ = some (.slice A2 K.length c2) := (blk_cell hbs 2).trans rfl; have fh72 := blk_frozen hbs 2; have h73 : w7.cell? ⟨gs, 3, none⟩ = some (.slice A3 Ps.length c3) := (blk_cell hbs 3).trans rfl; have fh73 := blk_frozen hbs 3; clear hbs)
   have hOl : (head (bn : Int) ls ++ flat (line ls) ls.length ++ varint K.length).length ≤ 20010040 := by have h1 := HLL.out; have h2 := varint_len10 (n := K.length) zq1; rw [List.length_append]; omega
   have HCODE := zA (show body ((bn : Int), ls, K, Ps) = head (bn : Int) ls ++ flat (line ls) ls.length ++ varint K.length ++ flat (grp (bn : Int) K Ps) K.length from rfl)
   generalize hO : head (bn : Int) ls ++ flat (line ls) ls.length ++ varint K.length = O at hE7 hOl HCODE
   clear hO
   go_loopg [6, 44] K.length (fun gg s6 s44 wr => ∃ j : Nat, j ≤ K.length ∧ K.length - j ≤ gg ∧ s6 = .int .i64 (lastK K j) ∧ s44 = .int .i64 j ∧ Aside0 (Enc w1 wr ge (fun _ => False) (O ++ flat (grp (bn : Int) K Ps) j)))
   case atStart => exact ⟨0, zq1, zq1, rfl, rfl, ⟨by have e : flat (grp (bn : Int) K Ps) 0 = [] := rfl; rw [e, List.append_nil]; exact hE7⟩⟩
   case round =>
    clear hE7 HE HW
    rename World => w8
    obtain ⟨j, hj, hg, rfl, rfl, HE⟩ := hrel
    have HW := zA (grew_trans HB.out (Enc.below HE.out))
    have hgr := grps_len HOK.out j (by show j ≤ K.length; omega)
    have hGl : (O ++ flat (grp (bn : Int) K Ps) j).length ≤ 300000000 := by have h2 : (flat (grp (bn : Int) K Ps) j).length ≤ 180360000 := hgr; rw [List.length_append]; omega
    clear hgr
    by_cases hlt : j < K.length
    ·have hltz : (j : Int) < (K.length : Int) := by omega
     have hltp : j < Ps.length := by have := HPK.out; omega
     have hltpz : (j : Int) < (Ps.length : Int) := by omega
     obtain ⟨ad2, u2, rfl, hc20, hK2⟩ := get_one (d := Kd.int .i64) rfl R2.out 0 j hlt
     obtain rfl : u2 = .int .i64 (K.getD j 0) := by have h : [u2] = [Value.int .i64 (K.getD j 0)] := hK2; injection h
     have hc2 : w8.cell? (ad2.add j) = some (.int .i64 (K.getD j 0)) := (HW.out.cell (World.block_lt_of_cell? w _ hc20)).trans hc20
     obtain ⟨ad3, u3, rfl, hc30, hK3⟩ := get_one (d := HelpII.kI) rfl R3.out [] j hltp
     obtain ⟨A', c', e', hc', hr'⟩ := hK3
     obtain rfl : u3 = .slice A' (Ps.getD j []).length c' := by injection e'
     have hc3 : w8.cell? (ad3.add j) = some (.slice A' (Ps.getD j []).length c') := (HW.out.cell (World.block_lt_of_cell? w _ hc30)).trans hc30
     have HC3 := zA hc30
     have HLP := zA hr'
     have hp1 : (Ps.getD j []).length ≤ 1000 := HOK.out.p1 j
     obtain ⟨g0, g1⟩ := HOK.out.g1 j hlt
     have g0 : 0 ≤ gap K j := g0
     have g1 : gap K j ≤ 16777216 := g1
     have HD := zA (show ∀ i, i < (Ps.getD j []).length → 0 ≤ del (bn : Int) (Ps.getD j []) i ∧ del (bn : Int) (Ps.getD j []) i ≤ 1000 from fun i hi => HOK.out.d1 j i hlt hi)
     have HGRP := zA (show O ++ flat (grp (bn : Int) K Ps) (j + 1) = O ++ flat (grp (bn : Int) K Ps) j ++ (varint (gap K j).toNat ++ varint (Ps.getD j []).length) ++ dels (bn : Int) (Ps.getD j []) (Ps.getD j []).length from by rw [flat_succ, ← List.append_assoc, ← List.append_assoc]; show _ ++ (varint _ ++ varint _ ++ dels _ _ _) = _; simp only [List.append_assoc])
     have HLK := zA (show lastK K (j + 1) = K.getD j 0 from by simp [lastK])
     have hgl := gap_last K j
     clear hr' e' hc' hc20 hc30
     obtain ⟨g, hgn⟩ : ∃ g : Nat, gap K j = (g : Int) := ⟨(gap K j).toNat, zq1⟩
     rw [hgn] at g0 g1 hgl HGRP
     rw [Int.toNat_natCast] at HGRP
     clear hgn
     generalize hO2 : O ++ flat (grp (bn : Int) K Ps) j = O2 at HE hGl HGRP
     clear hO2
     generalize hkj : K.getD j 0 = kj at hc2 hgl HLK
     clear hkj
     have hgl2 : 0 ≤ kj - lastK K j ∧ kj - lastK K j ≤ 16777216 := by omega
     generalize hlk : lastK K j = lk at hgl hgl2
     clear hlk
     generalize hP : Ps.getD j [] = P at hc3 HC3 HLP hp1 HD HGRP
     clear hP
     have h2n := two_numbers ge (kj - lk) (P.length : Int) g P.length O2 w1 w8 HE.out zq1 rfl zq1 zq1 zq1
     have hbs := blk_below (g := gs) BKs.out (Enc.below HE.out)
     have h80 : w8.cell? ⟨gs, 0, none⟩ = some (.int .i64 (bn : Int)) := (blk_cell hbs 0).trans rfl; have fh80 := blk_frozen hbs 0; have h81 : w8.cell? ⟨gs, 1, none⟩ = some (.slice A1 ls.length c1) := (blk_cell hbs 1).trans rfl; have fh81 := blk_frozen hbs 1; have h82 : w8.cell? ⟨gs, 2, none⟩ = some (.slice (some ad2) K.length c2) := (blk_cell hbs 2).trans rfl; have fh82 := blk_frozen hbs 2; have h83 : w8.cell? ⟨gs, 3, none⟩ = some (.slice (some ad3) Ps.length c3) := (blk_cell hbs 3).trans rfl; have fh83 := blk_frozen hbs 3
     clear hbs
     go_wp2_with (go_at_call 96; refine h2n.mono ?_; rintro e w9 ⟨rfl, hE9⟩; have hbs := blk_below (g := gs) BKs.out (Enc.below hE9); have h90 : w9.cell? ⟨gs, 0, none⟩ = some (.int .i64 (bn : Int)) := (blk_cell hbs 0).trans rfl; have fh90 := blk_frozen hbs 0; have h91 : w9.cell? ⟨gs, 1, none⟩ = some (.slice A1 ls.length c1) := (blk_cell hbs 1).trans rfl; have fh91 := blk_frozen hbs 1; have h92 : w9.cell? ⟨gs, 2, none⟩ = some (.slice (some ad2) K.length c2) := (blk_cell hbs 2).trans rfl; have fh92 := blk_frozen hbs 2; have h93 : w9.cell? ⟨gs, 3, none⟩ = some (.slice (some ad3) Ps.length c3) := (blk_cell hbs 3).trans rfl; have fh93 := blk_frozen hbs 3; clear hbs; have hc9 : w9.cell? (ad3.add j) = some (.slice A' P.length c') := ((grew_trans HB.out (Enc.below hE9)).cell (World.block_lt_of_cell? w _ HC3.out)).trans HC3.out)
     have hl9 : (O2 ++ (varint g ++ varint P.length)).length ≤ 300000020 := by have h1 := varint_len10 (n := g) zq1; have h2 := varint_len10 (n := P.length) zq1; simp only [List.length_append]; omega
     generalize hO3 : O2 ++ (varint g ++ varint P.length) = O3 at hE9 hl9 HGRP
     clear hO3
     go_loopg [9, 70] P.length (fun gg s9 s70 wr => ∃ i : Nat, i ≤ P.length ∧ P.length - i ≤ gg ∧ s9 = .int .i64 (lastP (bn : Int) P i) ∧ s70 = .int .i64 i ∧ Aside0 (Enc w1 wr ge (fun _ => False) (O3 ++ dels (bn : Int) P i)))
     case atStart => exact ⟨0, zq1, zq1, rfl, rfl, ⟨by have e : dels (bn : Int) P 0 = [] := rfl; rw [e, List.append_nil]; exact hE9⟩⟩
     case round =>
      clear hE9
      rename World => wi
      obtain ⟨i, hi, hgi, rfl, rfl, HEi⟩ := hrel
      by_cases hli : i < P.length
      ·have hliz : (i : Int) < (P.length : Int) := by omega
       obtain ⟨ad4, u4, rfl, hc40, hK4⟩ := get_one (d := Kd.int .i64) rfl HLP.out 0 i hli
       obtain rfl : u4 = .int .i64 (P.getD i 0) := by have h : [u4] = [Value.int .i64 (P.getD i 0)] := hK4; injection h
       have hc4 : wi.cell? (ad4.add i) = some (.int .i64 (P.getD i 0)) := ((grew_trans HB.out (Enc.below HEi.out)).cell (World.block_lt_of_cell? w _ hc40)).trans hc40
       obtain ⟨d0, d1⟩ := HD.out i hli
       have hdl := del_last (bn : Int) P i
       have hdn : dels (bn : Int) P (i + 1) = dels (bn : Int) P i ++ varint (del (bn : Int) P i).toNat := flat_succ _ _
       have HLP2 := zA (show lastP (bn : Int) P (i + 1) = P.getD i 0 from by simp [lastP])
       have hdll := dels_len (b := (bn : Int)) (P := P) (n := i) (fun q hq => (HD.out q zq1).2)
       obtain ⟨g', hgn'⟩ : ∃ g : Nat, del (bn : Int) P i = (g : Int) := ⟨(del (bn : Int) P i).toNat, zq1⟩
       rw [hgn'] at d0 d1 hdl hdn
       rw [Int.toNat_natCast] at hdn
       have HDN := zA hdn
       clear hdn hgn' hc40
       have hdl2 : 0 ≤ P.getD i 0 - lastP (bn : Int) P i ∧ P.getD i 0 - lastP (bn : Int) P i ≤ 1000 := by omega
       generalize hxi : P.getD i 0 = xi at hc4 hdl hdl2 HLP2
       clear hxi
       generalize hlp : lastP (bn : Int) P i = lp at hdl hdl2
       clear hlp
       have h1n := one_number ge (xi - lp) g' (O3 ++ dels (bn : Int) P i) w1 wi HEi.out zq1 zq1 (by rw [List.length_append]; omega)
       go_wp2_with (go_at_call 96; refine h1n.mono ?_; rintro e w9' ⟨rfl, hE9⟩)
       go_roundg (P.length - (i + 1))
       case measure => omega
       case rel => exact ⟨i + 1, zq1, zq1, by rw [HLP2.out], by go_num, ⟨by rw [HDN.out, ← List.append_assoc]; exact hE9⟩⟩
      ·have hliz : ¬ (i : Int) < (P.length : Int) := by omega
       obtain rfl : i = P.length := by omega
       go_wp2
       go_roundg (K.length - (j + 1))
       case measure => omega
       case rel => exact ⟨j + 1, zq1, zq1, by rw [HLK.out], by go_num, ⟨by rw [HGRP.out]; exact HEi.out⟩⟩
    ·have hltz : ¬ (j : Int) < (K.length : Int) := by omega
     obtain rfl : j = K.length := by omega
     have hcode := HCODE.out
     have hEl := HE.out
     rw [← hcode] at hEl hGl
     clear hcode HCODE HE
     have hbyt := body_bytes ((bn : Int), ls, K, Ps) HBY.out
     have HCD := zA (show code ((bn : Int), ls, K, Ps) = body ((bn : Int), ls, K, Ps) ++ four (sum (body ((bn : Int), ls, K, Ps))) from rfl)
     generalize hbd : body ((bn : Int), ls, K, Ps) = bd at hEl hGl hbyt HCD
     clear hbd
     obtain ⟨hge0, hBe, Ao, co, hbe, hRe⟩ := hEl
     obtain ⟨Ax, cx, ex, hcx, hCx⟩ := Kd.R_reads hRe
     obtain ⟨rfl, rfl⟩ : Ao = Ax ∧ co = cx := by injection ex with q1 q2 q3; exact ⟨q1, q3⟩
     have hsum := sum_calls Ao co bd w8 hCx hbyt zq1
     have hcg : w8.cell? ⟨ge, 0, none⟩ = some (.slice Ao bd.length co) := (blk_cell hbe 0).trans rfl
     have hfg := blk_frozen hbe 0
     have HRE := zA (Kd.R_mono hRe (ok' := fun _ => True) (fun _ _ => trivial))
     have HBE := zA hBe
     have HSL := zA (sum_lt bd)
     clear hCx hRe hBe hbe hbyt ex hcx
     generalize hss : sum bd = hs at hsum HCD HSL
     clear hss
     go_wp2_with (first | (go_at_call 98; refine hsum.mono ?_; rintro e w' ⟨rfl, hw_⟩; subst w') | (at_builtin; refine Kd.R_append_rows (Kd.int .u8) (Rr := (Kd.int .u8).K (w8.alloc _)) (w0 := w1) w1.heap.size rfl (.tmp 91) (.tmp 103) 25 5 (.int .u8 0) 1 rfl Tryz.underlying25 infoB rfl zq15 zq15 (.slice Ao bd.length co) bd _ (some ⟨w8.heap.size, 0, none⟩) 4 4 (fun _ => True) (fun _ => False) rfl rfl (Kd.R_alloc HRE.out _) (four_row _ w8.heap.size _ _ _ _ (heap_alloc_new w8 _)) (fun x cs h => h) (fun _ h => h.elim) (fun _ _ => trivial) (below_alloc HBE.out _) (by have := HBE.out.size; simp; omega) zq1 ?_; rintro v1 w11 hR1 hB1 hg1 hat1))
     go_ret
     refine ⟨v1, rfl, ?_, grew_trans HB.out hB1⟩
     rw [HCD.out]
     have hsl := HSL.out
     have hR2 : Kd.R (Kd.int .u8) 5 w11 w1.heap.size (fun _ => True) v1 (bd ++ four hs) := by
      refine cast (congrArg (fun q => Kd.R (Kd.int .u8) 5 w11 w1.heap.size (fun _ => True) v1 (bd ++ q)) ?_) hR1
      unfold four
      congr 1 <;> first | rfl | omega | skip
     exact Kd.R_lower hR2 HG.out
end Go.Proofs.YtmgmdnmfalepkaaGreat.EncB
