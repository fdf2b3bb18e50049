/- Parts of the proof (see the row's own text): Spoil. -/
import Derived.Test.YtmgmdnmfalepkaaG00
import Derived.Test.YtmgmdnmfalepkaaG15
import Derived.Lib.SlBytesConst
import Derived.Deep.DeepCutAuto
import Derived.Test.YtmgmdnmfalepkaaG11
namespace Go.Proofs.Ytmgmdnmfalepkaa.Draw
open Go.RowKit Go.Proofs.YtmgmdnmfalepkaaW.PrintWords Go.Proofs.YtmgmdnmfalepkaaW.PrintMore Go.Proofs.Ytmgmdnmfalepkaa.Kit Go.Proofs.Ytmgmdnmfalepkaa.PKit Go.Proofs.Ytmgmdnmfalepkaa.Ty Go.Proofs.Ytmgmdnmfalepkaa.PSeg Go.Proofs.Ytmgmdnmfalepkaa.PEnc Go.Proofs.Ytmgmdnmfalepkaa.PDec Go.Proofs.Ytmgmdnmfalepkaa.PSta Go.Proofs.Ytmgmdnmfalepkaa.HelpBB Go.Proofs.Ytmgmdnmfalepkaa.HelpSeg
open Go.Proofs.Ytmgmdnmfalepkaa.Build hiding code ans
open Go.Proofs.Ytmgmdnmfalepkaa.Sto Go.Proofs.Ytmgmdnmfalepkaa.PDraw Go.Proofs.Ytmgmdnmfalepkaa.SegS
open Go.Proofs.Ytmgmdnmfalepkaa.L (IsS168)
set_option linter.unusedVariables false
set_option linter.unusedSimpArgs false
theorem gen_world (P : World → Prop) (w : World) (h : ∀ W, W = w → P W) : P w := h w rfl
theorem far4 {α : Type} (T : Ty α) {W : World} {N M gx gr base : Nat} (F : (N ≤ gx ∧ gx < M) ∧ (N ≤ gr ∧ gr < M)) {ok : Nat → Prop} {x : α} {v u0 u1 u2 u3 : Value} (h : T.M W base ok x v) (hq : ∀ q, ok q → q < N ∨ M ≤ q) : T.M ((((W.setCell ⟨gr, 0, none⟩ u0).setCell ⟨gr, 1, none⟩ u1).setCell ⟨gr, 2, none⟩ u2).setCell ⟨gr, 3, none⟩ u3) base ok x v := by
 have hr : ∀ q, ok q → q = gr → False := fun q h e => by have := hq q h; omega
 exact Ty.M_set (Ty.M_set (Ty.M_set (Ty.M_set h hr u0) hr u1) hr u2) hr u3
theorem far5 {α : Type} (T : Ty α) {W : World} {N M gx gr base j : Nat} (F : (N ≤ gx ∧ gx < M) ∧ (N ≤ gr ∧ gr < M)) {ok : Nat → Prop} {x : α} {v u u0 u1 u2 u3 : Value} (h : T.M W base ok x v) (hq : ∀ q, ok q → q < N ∨ M ≤ q) : T.M (((((W.setCell ⟨gx, j, none⟩ u).setCell ⟨gr, 0, none⟩ u0).setCell ⟨gr, 1, none⟩ u1).setCell ⟨gr, 2, none⟩ u2).setCell ⟨gr, 3, none⟩ u3) base ok x v :=
 far4 T F (Ty.M_set h (fun q h e => by have := hq q h; omega) u) hq
theorem bel4 {w0 W : World} {gx gr : Nat} {u0 u1 u2 u3 : Value} (F : w0.heap.size ≤ gx ∧ w0.heap.size ≤ gr) (h : Below w0.heap.size w0 W) : Below w0.heap.size w0 ((((W.setCell ⟨gr, 0, none⟩ u0).setCell ⟨gr, 1, none⟩ u1).setCell ⟨gr, 2, none⟩ u2).setCell ⟨gr, 3, none⟩ u3) := below_set (below_set (below_set (below_set h F.2) F.2) F.2) F.2
theorem bel5 {w0 W : World} {gx gr j : Nat} {u u0 u1 u2 u3 : Value} (F : w0.heap.size ≤ gx ∧ w0.heap.size ≤ gr) (h : Below w0.heap.size w0 W) : Below w0.heap.size w0 (((((W.setCell ⟨gx, j, none⟩ u).setCell ⟨gr, 0, none⟩ u0).setCell ⟨gr, 1, none⟩ u1).setCell ⟨gr, 2, none⟩ u2).setCell ⟨gr, 3, none⟩ u3) := bel4 F (below_set h F.1)
theorem kept5 {w W : World} {S : Nat → Prop} {gx gr j : Nat} {u u0 u1 u2 u3 : Value} (F : w.heap.size ≤ gx ∧ w.heap.size ≤ gr) (h : Kept w W S) : Kept w (((((W.setCell ⟨gx, j, none⟩ u).setCell ⟨gr, 0, none⟩ u0).setCell ⟨gr, 1, none⟩ u1).setCell ⟨gr, 2, none⟩ u2).setCell ⟨gr, 3, none⟩ u3) S :=
 Kept.setCell (p := ⟨gr, 3, none⟩) (Kept.setCell (p := ⟨gr, 2, none⟩) (Kept.setCell (p := ⟨gr, 1, none⟩) (Kept.setCell (p := ⟨gr, 0, none⟩) (Kept.setCell (p := ⟨gx, j, none⟩) h (.inr F.1) u) (.inr F.2) u0) (.inr F.2) u1) (.inr F.2) u2) (.inr F.2) u3
theorem kMk {w : World} (b : Int) {ls : List (List Int)} {K : List Int} {Ps : List (List Int)} {B1 B2 B3 : Option Addr} {d1 d2 d3 : Nat} (h1 : ls.length ≤ d1 ∧ Kd.C kB w B1 ls.length ls) (h2 : K.length ≤ d2 ∧ Kd.C (Kd.int .i64) w B2 K.length K) (h3 : Ps.length ≤ d3 ∧ Kd.C HelpII.kI w B3 Ps.length Ps) : kSeg.K w (b, ls, K, Ps) [.int .i64 b, .slice B1 ls.length d1, .slice B2 K.length d2, .slice B3 Ps.length d3] :=
 ⟨[_], [_, _, _], rfl, rfl, [_], [_, _], rfl, ⟨B1, d1, rfl, h1.1, h1.2⟩, [_], [_], rfl, ⟨B2, d2, rfl, h2.1, h2.2⟩, ⟨B3, d3, rfl, h3.1, h3.2⟩⟩
theorem row_blk {α : Type} {d : Kd α} {e base : Nat} {w : World} {ok : Nat → Prop} {A : Option Addr} {n c : Nat} {xs : List α} (h : d.R e w base ok (.slice A n c) xs) (hn : 0 < xs.length) : ∃ g, A = some ⟨g, 0, none⟩ := by
 obtain ⟨inner, ho⟩ := Kd.R_own h
 rcases ho.2 with ⟨_, h0⟩ | ⟨g, cp, cur, e1, hg, _⟩
 ·omega
 ·exact ⟨g, by injection e1⟩
theorem infoI : (Try.prog.info? 3).map (fun i => (i.zero, i.size, i.bytes)) = some (some (.int .i64 0), 1, 8) := by kernel_rfl
theorem infoII : (Try.prog.info? 22).map (fun i => (i.zero, i.size, i.bytes)) = some (some (.slice none 0 0), 1, 24) := by kernel_rfl
theorem infoBB : (Try.prog.info? 33).map (fun i => (i.zero, i.size, i.bytes)) = some (some (.slice none 0 0), 1, 24) := by kernel_rfl
theorem lenEq {α : Type} {d : Kd α} {w : World} {A : Option Addr} {n c : Nat} {xs : List α} (h : n ≤ c ∧ Kd.C d w A xs.length xs) (e : xs.length = n) : xs.length ≤ c ∧ Kd.C d w A xs.length xs := ⟨e ▸ h.1, h.2⟩
theorem splice_pre {α : Type} (L : List α) (off : Nat) (cs : List α) (h : off + cs.length ≤ L.length) : (splice L off cs).take off = L.take off := by
 unfold splice
 rw [List.take_append_of_le_length zq55, List.take_take, Nat.min_self]
theorem splice_all {α : Type} (L : List α) (off : Nat) (cs : List α) (h : off + cs.length ≤ L.length) : (splice L off cs).take (off + cs.length) = L.take off ++ cs := by
 unfold splice
 rw [← List.append_assoc, List.take_append_of_le_length (by rw [List.length_append, List.length_take]; omega)]
 exact List.take_of_length_le (by rw [List.length_append, List.length_take]; omega)
theorem marked_K {F : World} {m : Nat} (hm : F.heap[m]? = some (.cells #[.int .u8 97, .int .u8 98] 5 (2, 3))) : kB.K F [97, 98] [.slice (some ⟨m, 0, none⟩) 2 2] := by
  refine ⟨some ⟨m, 0, none⟩, 2, rfl, zq13, rfl, zq13, fun _ => ⟨⟨m, 0, none⟩, rfl, fun j p hj => ?_⟩⟩
  refine ⟨[.int .u8 p], rfl, rfl, fun i q hi => ?_⟩
  have hi0 : i = 0 := by
    cases i with
    | zero => rfl
    | succ i => simp at hi
  subst hi0
  have hq : Value.int .u8 p = q := by simpa using hi
  subst hq
  have hadd : (⟨m, 0, none⟩ : Addr).add (j * 1 + 0) = ⟨m, 0 + (j * 1 + 0), none⟩ := by unfold Addr.add; split <;> simp_all
  show F.cell? ((⟨m, 0, none⟩ : Addr).add (j * 1 + 0)) = _
  rw [hadd]
  match j, hj with
  | 0, hj => have e : (97 : Int) = p := by simpa using hj
             subst e; simp [World.cell?, hm]
  | 1, hj => have e : (98 : Int) = p := by simpa using hj
             subst e; simp [World.cell?, hm]
  | j + 2, hj => simp at hj
theorem row_read {F : World} {e base : Nat} {A : Option Addr} {n c : Nat} {xs : List (List Int)} {inner : List Value} (ho : F.ownsRow base e 1 (.slice A n c) n inner) (hr : Reps (fun p c => kB.K F p c) 1 xs inner) (hn : n = xs.length) : xs.length ≤ c ∧ Kd.C kB F A xs.length xs := by
 subst hn
 obtain ⟨A', c', e1, hl, h⟩ := OwnRow.reads (R := fun p c => kB.K F p c) (size := 1) (ps := xs) ⟨inner, ho, hr⟩
 have e2 : A = A' := by injection e1
 have e3 : c = c' := by injection e1
 subst e2 e3
 exact ⟨hl, h⟩
theorem one_new (w : World) (x : Int) (base : Nat) (hb : base ≤ w.heap.size) : Kd.R (Kd.int .i64) 3 (w.alloc (.cells #[.int .i64 x] 3 (0, 0))) base (fun q => w.heap.size ≤ q) (.slice (some ⟨w.heap.size, 0, none⟩) 1 1) [x] :=
 Kd.R_of_own (enc := fun n => Value.int .i64 n) (h1 := fun _ => rfl) (xs := [x]) ⟨rfl, .inr ⟨w.heap.size, 1, #[.int .i64 x], rfl, hb, heap_alloc_new _ _, Nat.le_refl _, zq13, rfl, rfl⟩⟩ (fun k hk => Nat.le_of_eq (by simpa [Value.ownBlock] using hk))
theorem put_row {w : World} {e base g n cap : Nat} {ok okp : Nat → Prop} {Ps : List (List Int)} (h : Kd.R HelpII.kI e w base ok (.slice (some ⟨g, 0, none⟩) n cap) Ps) (i : Nat) (hi : i < n) (p : List Int) (u : Value) (hM : HelpII.kI.M w base okp p [u]) (hokp : ∀ k, okp k → ok k ∧ k ≠ g) : Kd.R HelpII.kI e (w.setCell ⟨g, i, none⟩ u) base ok (.slice (some ⟨g, 0, none⟩) n cap) (Ps.set i p) := by
 obtain ⟨hn, hle, hC⟩ := Kd.R_reads' h
 obtain ⟨ad, c0, e1, hc0, hK⟩ := get_one (d := HelpII.kI) rfl hC [] i zq3
 injection e1 with e1
 subst e1
 have hadd : (⟨g, 0, none⟩ : Addr).add i = ⟨g, 0 + i, none⟩ := by unfold Addr.add; split <;> simp_all
 have hs : HelpII.kI.sz = 1 := rfl
 have h2 := (Kd.R_seg h (i : Int) zq3 zq3 (c := [c0]) (seg := [u]) (j := 0) rfl (fun j q hj => by
  cases j with
  | zero =>
   have e3 : c0 = q := by simpa using hj
   rw [← e3, hs, show (i : Int).toNat * 1 + 0 = i from by simp]
   rw [hadd, Nat.zero_add] at hc0
   exact hc0
  | succ j => simp at hj) (by rw [hs]; simp) hM hokp).1
 rw [hs, show (i : Int).toNat * 1 + 0 = i from by simp] at h2
 exact h2
theorem modN (v : Int) (n : Nat) (h : 0 ≤ v) : (v % (n : Int)).toNat = v.toNat % n := by
 obtain ⟨m, rfl⟩ := Int.eq_ofNat_of_zero_le h
 rfl
theorem row_cur {α : Type} {d : Kd α} {e base : Nat} {w : World} {ok : Nat → Prop} {g n c : Nat} {xs : List α} (h : d.R e w base ok (.slice (some ⟨g, 0, none⟩) n c) xs) (hn : 0 < xs.length) : ∃ cur : Array Value, w.heap[g]? = some (.cells cur e (0, 0)) ∧ xs.length * d.sz ≤ cur.size := by
 obtain ⟨inner, ho⟩ := Kd.R_own h
 have hl := ho.1
 rcases ho.2 with ⟨_, h0⟩ | ⟨g', cp, cur, e1, hg, hb, hle, hmax, hsz, htk⟩
 ·omega
 ·obtain ⟨rfl⟩ : g = g' := by injection e1 with e1; injection e1 with e1; injection e1
  exact ⟨cur, hb, by rw [hsz]; exact Nat.mul_le_mul_right _ hle⟩
theorem dropA {w : World} {g d : Nat} {K : List Int} (q : K.length ≤ d ∧ Kd.C (Kd.int .i64) w (some ⟨g, 0, none⟩) K.length K) (hn : 0 < K.length) (hd : ¬ d = 1) : (K.drop 1).length ≤ d - 1 ∧ Kd.C (Kd.int .i64) w (some ⟨g, 1, none⟩) (K.drop 1).length (K.drop 1) :=
 ⟨by rw [List.length_drop]; omega, by have h := Kd.C_drop (m := 1) q.2 hn q.1; rw [if_neg hd] at h; exact h⟩
theorem dropB {w : World} {g : Nat} {K : List Int} (q : K.length ≤ 1 ∧ Kd.C (Kd.int .i64) w (some ⟨g, 0, none⟩) K.length K) (hn : 0 < K.length) : (K.drop 1).length ≤ 0 ∧ Kd.C (Kd.int .i64) w (some ⟨g, 0, none⟩) (K.drop 1).length (K.drop 1) :=
 ⟨by rw [List.length_drop]; omega, by have h := Kd.C_drop (m := 1) (c := 1) q.2 hn q.1; rw [if_pos rfl] at h; exact h⟩
set_option maxRecDepth 100000 in
set_option maxHeartbeats 60000000 in
theorem spoil_ex (c : List Int) (i : Int) (hr : Rdr c i) : ∃ (k v : Int), 0 ≤ k ∧ k ≤ 9 ∧ 0 ≤ v ∧ v ≤ 255 ∧ ∀ (b : Int) (ls : List (List Int)) (K : List Int) (Ps : List (List Int)) (g : Nat) (w0 w : World) (B1 : Option Addr) (d1 : Nat) (B2 : Option Addr) (d2 : Nat) (B3 : Option Addr) (d3 : Nat) (o1 o2 o3 : Nat → Prop), IsS168 w0 w g c i → Below w0.heap.size w0 w → Kd.S kB 33 w w0.heap.size o1 (.slice B1 ls.length d1) ls → Kd.R (Kd.int .i64) 3 w w0.heap.size o2 (.slice B2 K.length d2) K → Kd.S HelpII.kI 22 w w0.heap.size o3 (.slice B3 Ps.length d3) Ps → (∀ q, o1 q → q < w.heap.size ∧ q ≠ g ∧ ¬ o2 q ∧ ¬ o3 q) → (∀ q, o2 q → q < w.heap.size ∧ q ≠ g ∧ ¬ o3 q) → (∀ q, o3 q → q < w.heap.size ∧ q ≠ g) → 0 ≤ b → b ≤ 1000 → ls.length ≤ 100 → K.length ≤ 1000 → Ps.length = K.length → (∀ p ∈ Ps, p.length ≤ 1000) →
  Calls Try.prog 119 #[.agg #[.int .i64 b, .slice B1 ls.length d1, .slice B2 K.length d2, .slice B3 Ps.length d3], .pointer (some ⟨g, 0, none⟩)] w fun e w' => ∃ (C1 : Option Addr) (e1 : Nat) (C2 : Option Addr) (e2 : Nat) (C3 : Option Addr) (e3 : Nat), e = .returned (.agg #[.int .i64 (spoil (b, ls, K, Ps) k v).1, .slice C1 (spoil (b, ls, K, Ps) k v).2.1.length e1, .slice C2 (spoil (b, ls, K, Ps) k v).2.2.1.length e2, .slice C3 (spoil (b, ls, K, Ps) k v).2.2.2.length e3]) ∧ (told (spoil (b, ls, K, Ps) k v) → kSeg.K w' (spoil (b, ls, K, Ps) k v) [.int .i64 (spoil (b, ls, K, Ps) k v).1, .slice C1 (spoil (b, ls, K, Ps) k v).2.1.length e1, .slice C2 (spoil (b, ls, K, Ps) k v).2.2.1.length e2, .slice C3 (spoil (b, ls, K, Ps) k v).2.2.2.length e3]) ∧ (¬ told (spoil (b, ls, K, Ps) k v) → kSeg.K w' (b, ls, K, Ps) [.int .i64 b, .slice B1 ls.length d1, .slice B2 K.length d2, .slice B3 Ps.length d3] ∧ Kept w w' (fun q => q = g ∨ o2 q)) ∧ Below w0.heap.size w0 w' := by
 obtain ⟨u, i1, hE1, u0, u1, hr1⟩ := next_ex hr
 obtain ⟨v, i2, hE2, v0, v1, hr2⟩ := next_ex hr1
 refine ⟨u % 10, v, zq3, zq3, v0, v1, ?_⟩
 intro b ls K Ps g w0 w B1 d1 B2 d2 B3 d3 o1 o2 o3 hI hB hS1 hR2 hS3 hO1 hO2 hO3 b0 b1 hl hk hp hpl
 have huI := Try.underlying50
 have HI := zA hI
 have HB0 := zA hB
 have HE1 := zA hE1
 have HE2 := zA hE2
 have HS1 := zA hS1
 have HR2 := zA hR2
 have HS3 := zA hS3
 have O1 := zA hO1
 have O2 := zA hO2
 have O3 := zA hO3
 have HLT := zA (show g < w.heap.size from hI.lt)
 have HPL := zA hpl
 have HPP := zA hp
 have m1 : ls.length ≤ 9223372036854775807 := by omega
 have hp1 : Ps.length ≤ 1000 := by omega
 clear hI hB hE1 hE2 hS1 hR2 hS3 hO1 hO2 hO3 hr hr1 hr2 hpl hp
 go_enter Try.func119, Try.ntmps119
 go_wp2_with (first | ((with_reducible refine gate_dst (N := 2) rfl ?_); refine box_event ?hg (N := 2) ?hd (cs := #[.int .i64 b, .slice B1 ls.length d1, .slice B2 K.length d2, .slice B3 Ps.length d3]) (t := 50) ?hr ?_; (case hd => rfl); (case hg => rfl); (case hr => first | (go_simp; done) | (go_simp; rfl)); intro gx hg_ w1 hbx hbb; have BKgx := zA hbx; have GEgx := zA (show w.heap.size ≤ gx from Nat.le_of_eq hg_.symm); have GLgx := zA (blk_lt hbx); have HBw1 := zA hbb; clear hg_ hbb; obtain ⟨⟨hgxc0, hgxf0⟩, ⟨hgxc1, hgxf1⟩, ⟨hgxc2, hgxf2⟩, ⟨hgxc3, hgxf3⟩⟩ := cells4 hbx; clear hbx) | ((with_reducible refine gate_dst (N := 4) rfl ?_); refine box_event ?hg (N := 4) ?hd (cs := #[.int .i64 0, .slice none 0 0, .slice none 0 0, .slice none 0 0]) (t := 50) ?hr ?_; (case hd => rfl); (case hg => rfl); (case hr => first | (go_simp; done) | (go_simp; rfl)); intro gr hg_ w2 hbx hbb; have BKgr := zA hbx; have GEgr := zA (show w1.heap.size ≤ gr from Nat.le_of_eq hg_.symm); have GLgr := zA (blk_lt hbx); have HBw2 := zA hbb; clear hg_ hbb; obtain ⟨⟨hgrc0, hgrf0⟩, ⟨hgrc1, hgrf1⟩, ⟨hgrc2, hgrf2⟩, ⟨hgrc3, hgrf3⟩⟩ := cells4 hbx; clear hbx; have n_ := zA (blk_below BKgx.out HBw2.out); clear BKgx; have BKgx := n_; clear n_))
 go_at_call 116
 refine (L.spec_l1rd_next.calls g c i u i1 w0 _ (HI.out.below (grew_trans HBw1.out HBw2.out)) (grew_trans HB0.out (grew_trans HBw1.out HBw2.out)) HE1.out).mono ?_
 rintro e w3 ⟨rfl, hI3, hB3, hK3⟩
 have HI3 := zA hI3
 have HB3 := zA hB3
 have HK3 := zA hK3
 clear hI3 hB3 hK3
 go_wp2_with fail
 go_at_call 116
 refine (L.spec_l1rd_next.calls g c i1 v i2 w0 _ HI3.out HB3.out HE2.out).mono ?_
 rintro e w4 ⟨rfl, hI4, hB4, hK4⟩
 have HB4 := zA hB4
 have NXG := zA (show gx ≠ g from fun e => by have h1 := HLT.out; have h2 := GEgx.out; omega)
 have NRG := zA (show gr ≠ g from fun e => by have h1 := HLT.out; have h2 := GEgr.out; have h3 := HBw1.out.size; omega)
 have NXR := zA (show gx ≠ gr from fun e => by have h1 := GLgx.out; have h2 := GEgr.out; omega)
 have BX := zA (hK4.blk (HK3.out.blk BKgx.out NXG.out zq14) NXG.out zq14)
 have BR := zA (hK4.blk (HK3.out.blk BKgr.out NRG.out zq14) NRG.out zq14)
 have S14 := zA (Kd.S_keep (Kd.S_keep (Kd.S_below HS1.out (grew_trans HBw1.out HBw2.out)) HK3.out (fun q hq => (O1.out q hq).2.1)) hK4 (fun q hq => (O1.out q hq).2.1))
 have R24 := zA (Kd.R_keep (Kd.R_keep (Kd.R_below HR2.out (grew_trans HBw1.out HBw2.out)) HK3.out (fun q hq => (O2.out q hq).2.1)) hK4 (fun q hq => (O2.out q hq).2.1))
 have S34 := zA (Kd.S_keep (Kd.S_keep (Kd.S_below HS3.out (grew_trans HBw1.out HBw2.out)) HK3.out (fun q hq => (O3.out q hq).2)) hK4 (fun q hq => (O3.out q hq).2))
 have GX := zA (show w.heap.size ≤ gx ∧ w.heap.size ≤ gr from ⟨GEgx.out, Nat.le_trans HBw1.out.size GEgr.out⟩)
 have GX0 := zA (show w0.heap.size ≤ gx ∧ w0.heap.size ≤ gr from ⟨Nat.le_trans HB0.out.size GX.out.1, Nat.le_trans HB0.out.size GX.out.2⟩)
 have GL := zA (show gx < w4.heap.size ∧ gr < w4.heap.size ∧ w.heap.size ≤ w4.heap.size from ⟨blk_lt BX.out, blk_lt BR.out, Nat.le_trans (Nat.le_trans HBw1.out.size HBw2.out.size) (Nat.le_trans HK3.out.1 hK4.1)⟩)
 have FXR := zA (show (w.heap.size ≤ gx ∧ gx < w4.heap.size) ∧ (w.heap.size ≤ gr ∧ gr < w4.heap.size) from ⟨⟨GX.out.1, GL.out.1⟩, ⟨GX.out.2, GL.out.2.1⟩⟩)
 have HKW := zA (show Kept w w4 (fun q => q = g ∨ o2 q) from ((Kept.of_below (grew_trans HBw1.out HBw2.out) _).of_keep HK3.out (.inl (.inl rfl))).of_keep hK4 (.inl (.inl rfl)))
 clear hI4 hB4 hK4 HI HI3 HE1 HE2 HS1 HR2 HS3 BKgx BKgr
 obtain ⟨⟨x0, xf0⟩, ⟨x1, xf1⟩, ⟨x2, xf2⟩, ⟨x3, xf3⟩⟩ := cells4 BX.out
 clear hgxc0 hgxf0 hgrc0 hgrf0 hgxc1 hgxf1 hgrc1 hgrf1 hgxc2 hgxf2 hgrc2 hgrf2 hgxc3 hgxf3 hgrc3 hgrf3
 by_cases c0 : u % 10 = 0
 case pos =>
  have HSP := zA (show spoil (b, ls, K, Ps) (u % 10) v = (b + 1, ls, K, Ps) from by unfold spoil; rw [if_pos c0])
  have BXW := zA (show (w4.setCell ⟨gx, 0, none⟩ (.int .i64 (b + 1))).heap[gx]? = some (.cells #[.int .i64 (b + 1), .slice B1 ls.length d1, .slice B2 K.length d2, .slice B3 Ps.length d3] 50 (0, 0)) from blk_put (cs := #[.int .i64 b, .slice B1 ls.length d1, .slice B2 K.length d2, .slice B3 Ps.length d3]) BX.out 0 _ rfl)
  have BRW := zA (show (w4.setCell ⟨gx, 0, none⟩ (.int .i64 (b + 1))).heap[gr]? = some (.cells #[.int .i64 0, .slice none 0 0, .slice none 0 0, .slice none 0 0] 50 (0, 0)) from blk_far BR.out (fun e => NXR.out e.symm) _)
  obtain ⟨⟨y0, yf0⟩, ⟨y1, yf1⟩, ⟨y2, yf2⟩, ⟨y3, yf3⟩⟩ := cells4 BXW.out
  obtain ⟨⟨z0, zf0⟩, ⟨z1, zf1⟩, ⟨z2, zf2⟩, ⟨z3, zf3⟩⟩ := cells4 BRW.out
  go_wp2_with fail
  refine bodyPost_ret (results_cell_row rfl _ _ gr 50 #[.int .i64 (b + 1), .slice B1 ls.length d1, .slice B2 K.length d2, .slice B3 Ps.length d3] (0, 0) _ rfl (by (with_reducible repeat (first | refine blk_drewN ?_ _ | refine blk_drew ?_ | refine blk_alloc ?_ _)); refine blk_put (cs := #[.int .i64 (b + 1), .slice B1 ls.length d1, .slice B2 K.length d2, .slice none 0 0]) ?_ 3 _ rfl; (with_reducible repeat (first | refine blk_drewN ?_ _ | refine blk_drew ?_ | refine blk_alloc ?_ _)); refine blk_put (cs := #[.int .i64 (b + 1), .slice B1 ls.length d1, .slice none 0 0, .slice none 0 0]) ?_ 2 _ rfl; (with_reducible repeat (first | refine blk_drewN ?_ _ | refine blk_drew ?_ | refine blk_alloc ?_ _)); refine blk_put (cs := #[.int .i64 (b + 1), .slice none 0 0, .slice none 0 0, .slice none 0 0]) ?_ 1 _ rfl; (with_reducible repeat (first | refine blk_drewN ?_ _ | refine blk_drew ?_ | refine blk_alloc ?_ _)); refine blk_put (cs := #[.int .i64 0, .slice none 0 0, .slice none 0 0, .slice none 0 0]) ?_ 0 _ rfl; (with_reducible repeat (first | refine blk_drewN ?_ _ | refine blk_drew ?_ | refine blk_alloc ?_ _)); exact BRW.out) Try.underlying50 rfl zq12) rfl ?_
  rw [HSP.out]
  refine ⟨B1, d1, B2, d2, B3, d3, rfl, fun ht => ?_, fun hnt => ?_, (bel5 GX0.out HB4.out)⟩
  ·exact kMk (b + 1) (Kd.S_reads' (far5 HelpBB.tBB FXR.out (j := 0) S14.out (fun q hq => .inl (O1.out q hq).1))).2 (Kd.R_reads' (far5 HelpI.tI FXR.out (j := 0) R24.out (fun q hq => .inl (O2.out q hq).1))).2 (Kd.S_reads' (far5 HelpII.tII FXR.out (j := 0) S34.out (fun q hq => .inl (O3.out q hq).1))).2
  ·exact ⟨kMk b (Kd.S_reads' (far5 HelpBB.tBB FXR.out (j := 0) S14.out (fun q hq => .inl (O1.out q hq).1))).2 (Kd.R_reads' (far5 HelpI.tI FXR.out (j := 0) R24.out (fun q hq => .inl (O2.out q hq).1))).2 (Kd.S_reads' (far5 HelpII.tII FXR.out (j := 0) S34.out (fun q hq => .inl (O3.out q hq).1))).2, (kept5 GX.out (j := 0) HKW.out)⟩
 by_cases c1 : u % 10 = 1
 case pos =>
  have HSP := zA (show spoil (b, ls, K, Ps) (u % 10) v = (-1, ls, K, Ps) from by unfold spoil; rw [if_neg c0, if_pos c1])
  have BXW := zA (show (w4.setCell ⟨gx, 0, none⟩ (.int .i64 (-1))).heap[gx]? = some (.cells #[.int .i64 (-1), .slice B1 ls.length d1, .slice B2 K.length d2, .slice B3 Ps.length d3] 50 (0, 0)) from blk_put (cs := #[.int .i64 b, .slice B1 ls.length d1, .slice B2 K.length d2, .slice B3 Ps.length d3]) BX.out 0 _ rfl)
  have BRW := zA (show (w4.setCell ⟨gx, 0, none⟩ (.int .i64 (-1))).heap[gr]? = some (.cells #[.int .i64 0, .slice none 0 0, .slice none 0 0, .slice none 0 0] 50 (0, 0)) from blk_far BR.out (fun e => NXR.out e.symm) _)
  obtain ⟨⟨y0, yf0⟩, ⟨y1, yf1⟩, ⟨y2, yf2⟩, ⟨y3, yf3⟩⟩ := cells4 BXW.out
  obtain ⟨⟨z0, zf0⟩, ⟨z1, zf1⟩, ⟨z2, zf2⟩, ⟨z3, zf3⟩⟩ := cells4 BRW.out
  go_wp2_with fail
  refine bodyPost_ret (results_cell_row rfl _ _ gr 50 #[.int .i64 (-1), .slice B1 ls.length d1, .slice B2 K.length d2, .slice B3 Ps.length d3] (0, 0) _ rfl (by (with_reducible repeat (first | refine blk_drewN ?_ _ | refine blk_drew ?_ | refine blk_alloc ?_ _)); refine blk_put (cs := #[.int .i64 (-1), .slice B1 ls.length d1, .slice B2 K.length d2, .slice none 0 0]) ?_ 3 _ rfl; (with_reducible repeat (first | refine blk_drewN ?_ _ | refine blk_drew ?_ | refine blk_alloc ?_ _)); refine blk_put (cs := #[.int .i64 (-1), .slice B1 ls.length d1, .slice none 0 0, .slice none 0 0]) ?_ 2 _ rfl; (with_reducible repeat (first | refine blk_drewN ?_ _ | refine blk_drew ?_ | refine blk_alloc ?_ _)); refine blk_put (cs := #[.int .i64 (-1), .slice none 0 0, .slice none 0 0, .slice none 0 0]) ?_ 1 _ rfl; (with_reducible repeat (first | refine blk_drewN ?_ _ | refine blk_drew ?_ | refine blk_alloc ?_ _)); refine blk_put (cs := #[.int .i64 0, .slice none 0 0, .slice none 0 0, .slice none 0 0]) ?_ 0 _ rfl; (with_reducible repeat (first | refine blk_drewN ?_ _ | refine blk_drew ?_ | refine blk_alloc ?_ _)); exact BRW.out) Try.underlying50 rfl zq12) rfl ?_
  rw [HSP.out]
  refine ⟨B1, d1, B2, d2, B3, d3, rfl, fun ht => ?_, fun hnt => ?_, (bel5 GX0.out HB4.out)⟩
  ·exact kMk (-1) (Kd.S_reads' (far5 HelpBB.tBB FXR.out (j := 0) S14.out (fun q hq => .inl (O1.out q hq).1))).2 (Kd.R_reads' (far5 HelpI.tI FXR.out (j := 0) R24.out (fun q hq => .inl (O2.out q hq).1))).2 (Kd.S_reads' (far5 HelpII.tII FXR.out (j := 0) S34.out (fun q hq => .inl (O3.out q hq).1))).2
  ·exact ⟨kMk b (Kd.S_reads' (far5 HelpBB.tBB FXR.out (j := 0) S14.out (fun q hq => .inl (O1.out q hq).1))).2 (Kd.R_reads' (far5 HelpI.tI FXR.out (j := 0) R24.out (fun q hq => .inl (O2.out q hq).1))).2 (Kd.S_reads' (far5 HelpII.tII FXR.out (j := 0) S34.out (fun q hq => .inl (O3.out q hq).1))).2, (kept5 GX.out (j := 0) HKW.out)⟩
 by_cases c2 : u % 10 = 2
 case pos =>
  obtain ⟨hR0, inner, hown, hreps⟩ := R24.out
  have HRP := zA hreps
  have HOWN := zA hown
  clear hreps hown
  have HR0 := zA hR0
  clear hR0
  obtain ⟨iI, hiI, hzI⟩ := Option.map_eq_some_iff.1 infoI
  simp only [Prod.mk.injEq] at hzI
  obtain ⟨hz0, hz1, hz2⟩ := hzI
  have HII := zA hiI
  have HZ0 := zA hz0
  have HZ1 := zA hz1
  have HZ2 := zA hz2
  clear hiI hz0 hz1 hz2
  by_cases hroom : K.length + 1 ≤ d2
  case neg =>
   have HNW := zA (show ∀ W : World, Below (w4.alloc (.cells #[.int .i64 16777215] 3 (0, 0))).heap.size (w4.alloc (.cells #[.int .i64 16777215] 3 (0, 0))) W → ∀ (j : Nat) (q : Value), [Value.int .i64 16777215][j]? = some q → W.cell? ((⟨w4.heap.size, 0, none⟩ : Addr).add j) = some q from fun W hW j q hj => by
    have hadd : (⟨w4.heap.size, 0, none⟩ : Addr).add j = ⟨w4.heap.size, 0 + j, none⟩ := by unfold Addr.add; split <;> simp_all
    rw [hadd, Nat.zero_add, blk_cell (blk_below (blk_new w4 (.cells #[.int .i64 16777215] 3 (0, 0))) hW)]
    simpa using hj)
   have HNO := zA (show B2 = none → K.length = 0 ∧ d2 = 0 from fun h => by subst h; rcases HOWN.out.2 with ⟨e, h0⟩ | ⟨g, cap, cur, e, _⟩; (injection e with e1 e2 e3; exact ⟨e2, e3⟩); (injection e with e1; cases e1))
   have HCE := zA (show ∀ bb, B2 = some bb → ∀ (j : Nat) (q : Value), inner[j]? = some q → (w4.alloc (.cells #[.int .i64 16777215] 3 (0, 0))).cell? (bb.add j) = some q from fun bb hbb j q hj => by
    subst hbb
    rcases HOWN.out.2 with ⟨e, h0⟩ | ⟨g, cap, cur, e, _⟩
    ·cases e
    ·have e1 : bb = ⟨g, 0, none⟩ := by injection e with e1; injection e1
     subst e1
     have h := HOWN.out.cells (g := g) rfl j q hj
     exact ((below_alloc (Below.refl _ _) _).cell (World.block_lt_of_cell? w4 _ h)).trans h)
   have BXA := zA (blk_alloc BX.out (.cells #[.int .i64 16777215] 3 (0, 0)))
   obtain ⟨⟨t0, tf0⟩, ⟨t1, tf1⟩, ⟨t2, tf2⟩, ⟨t3, tf3⟩⟩ := cells4 BXA.out
   have HSP := zA (show spoil (b, ls, K, Ps) (u % 10) v = (b, ls, K ++ [16777215], Ps) from by unfold spoil; rw [if_neg c0, if_neg c1, if_pos c2])
   go_wp2_with (at_builtin; refine wpList_append_grows _ rfl (.tmp 25) (.tmp 26) 22 rfl 3 iI (.int .i64 0) 1 8 Try.underlying22 HII.out HZ0.out HZ1.out HZ2.out rfl zq13 B2 K.length d2 inner zq33 (fun h => HNO.out h) HOWN.out.1 (fun bb hbb j q hj => HCE.out bb hbb j q hj) ⟨w4.heap.size, 0, none⟩ 1 1 [.int .i64 16777215] zq33 rfl (HNW.out _ (Below.refl _ _)) zq56 zq3 (by simp only [maxLen]; omega) zq3 ?_; intro v6 w6 hown6 hg6; obtain ⟨g6, c6, rfl⟩ : ∃ g c, v6 = .slice (some ⟨g, 0, none⟩) (K.length + 1) c := (by rcases hown6.2 with ⟨_, h0⟩ | ⟨g, cap, _, hv, _⟩; exact absurd h0 zq3; exact ⟨g, cap, hv⟩); have HKP := zA (show Below w4.heap.size w4 w6 from grew_trans (below_alloc (Below.refl _ _) _) ⟨hg6.os, hg6.tape, hg6.output, hg6.size, fun q hq => hg6.block q hq zq14⟩); have HB6 := zA (grew_trans HB4.out HKP.out); have BX6 := zA (blk_below BX.out HKP.out); have BR6 := zA (blk_below BR.out HKP.out); obtain ⟨⟨xz0, xzf0⟩, ⟨xz1, xzf1⟩, ⟨xz2, xzf2⟩, ⟨xz3, xzf3⟩⟩ := cells4 BX6.out; have BXW := zA (show (w6.setCell ⟨gx, 2, none⟩ (.slice (some ⟨g6, 0, none⟩) (K.length + 1) c6)).heap[gx]? = some (.cells #[.int .i64 b, .slice B1 ls.length d1, .slice (some ⟨g6, 0, none⟩) (K.length + 1) c6, .slice B3 Ps.length d3] 50 (0, 0)) from blk_put (cs := #[.int .i64 b, .slice B1 ls.length d1, .slice B2 K.length d2, .slice B3 Ps.length d3]) BX6.out 2 _ rfl); have BRW := zA (show (w6.setCell ⟨gx, 2, none⟩ (.slice (some ⟨g6, 0, none⟩) (K.length + 1) c6)).heap[gr]? = some (.cells #[.int .i64 0, .slice none 0 0, .slice none 0 0, .slice none 0 0] 50 (0, 0)) from blk_far BR6.out (fun e => NXR.out e.symm) _); obtain ⟨⟨y0, yf0⟩, ⟨y1, yf1⟩, ⟨y2, yf2⟩, ⟨y3, yf3⟩⟩ := cells4 BXW.out; obtain ⟨⟨z0, zf0⟩, ⟨z1, zf1⟩, ⟨z2, zf2⟩, ⟨z3, zf3⟩⟩ := cells4 BRW.out; clear hown6 hg6)
   refine bodyPost_ret (results_cell_row rfl _ _ gr 50 #[.int .i64 b, .slice B1 ls.length d1, .slice (some ⟨g6, 0, none⟩) (K.length + 1) c6, .slice B3 Ps.length d3] (0, 0) _ rfl (by (with_reducible repeat (first | refine blk_drewN ?_ _ | refine blk_drew ?_ | refine blk_alloc ?_ _)); refine blk_put (cs := #[.int .i64 b, .slice B1 ls.length d1, .slice (some ⟨g6, 0, none⟩) (K.length + 1) c6, .slice none 0 0]) ?_ 3 _ rfl; (with_reducible repeat (first | refine blk_drewN ?_ _ | refine blk_drew ?_ | refine blk_alloc ?_ _)); refine blk_put (cs := #[.int .i64 b, .slice B1 ls.length d1, .slice none 0 0, .slice none 0 0]) ?_ 2 _ rfl; (with_reducible repeat (first | refine blk_drewN ?_ _ | refine blk_drew ?_ | refine blk_alloc ?_ _)); refine blk_put (cs := #[.int .i64 b, .slice none 0 0, .slice none 0 0, .slice none 0 0]) ?_ 1 _ rfl; (with_reducible repeat (first | refine blk_drewN ?_ _ | refine blk_drew ?_ | refine blk_alloc ?_ _)); refine blk_put (cs := #[.int .i64 0, .slice none 0 0, .slice none 0 0, .slice none 0 0]) ?_ 0 _ rfl; (with_reducible repeat (first | refine blk_drewN ?_ _ | refine blk_drew ?_ | refine blk_alloc ?_ _)); exact BRW.out) Try.underlying50 rfl zq12) rfl ?_
   rw [HSP.out]
   refine ⟨B1, d1, some ⟨g6, 0, none⟩, c6, B3, d3, zq54, fun ht => ?_, fun hnt => ?_, (bel5 GX0.out HB6.out)⟩
   ·have h : (K ++ [16777215]).length ≤ Ps.length := ht.2; rw [List.length_append, List.length_singleton] at h; have := HPP.out; omega
   ·exact ⟨kMk b (Kd.S_reads' (far5 HelpBB.tBB FXR.out (j := 2) (Kd.S_below S14.out HKP.out) (fun q hq => .inl (O1.out q hq).1))).2 (Kd.R_reads' (far5 HelpI.tI FXR.out (j := 2) (Kd.R_below R24.out HKP.out) (fun q hq => .inl (O2.out q hq).1))).2 (Kd.S_reads' (far5 HelpII.tII FXR.out (j := 2) (Kd.S_below S34.out HKP.out) (fun q hq => .inl (O3.out q hq).1))).2, (kept5 GX.out (j := 2) (HKW.out.below HKP.out))⟩
  case pos =>
   have HNW := zA (show ∀ W : World, Below (w4.alloc (.cells #[.int .i64 16777215] 3 (0, 0))).heap.size (w4.alloc (.cells #[.int .i64 16777215] 3 (0, 0))) W → ∀ (j : Nat) (q : Value), [Value.int .i64 16777215][j]? = some q → W.cell? ((⟨w4.heap.size, 0, none⟩ : Addr).add j) = some q from fun W hW j q hj => by
    have hadd : (⟨w4.heap.size, 0, none⟩ : Addr).add j = ⟨w4.heap.size, 0 + j, none⟩ := by unfold Addr.add; split <;> simp_all
    rw [hadd, Nat.zero_add, blk_cell (blk_below (blk_new w4 (.cells #[.int .i64 16777215] 3 (0, 0))) hW)]
    simpa using hj)
   rcases HOWN.out.2 with ⟨e, h0⟩ | ⟨g2, cap, cur, e, hgb, hbc, hle, hmax, hszc, htk⟩
   ·exfalso
    injection e with e1 e2 e3
    omega
   have e1 : B2 = some ⟨g2, 0, none⟩ := by injection e
   have e3 : d2 = cap := by injection e
   subst e1 e3
   clear e
   have HG2 := zA (show g2 < w.heap.size ∧ ¬ o3 g2 ∧ o2 g2 from ⟨(O2.out g2 (HR0.out g2 rfl)).1, (O2.out g2 (HR0.out g2 rfl)).2.2, HR0.out g2 rfl⟩)
   have HBC := zA (show (w4.alloc (.cells #[.int .i64 16777215] 3 (0, 0))).heap[g2]? = some (.cells cur.toList.toArray 3 (0, 0)) from by rw [Array.toArray_toList]; exact blk_alloc hbc _)
   have hsz1 : cur.size = d2 * 1 := hszc
   have HFT := zA (show K.length * 1 + [Value.int .i64 16777215].length ≤ cur.toList.length from by have h : cur.toList.length = cur.size := Array.length_toList; show K.length * 1 + 1 ≤ cur.toList.length; omega)
   have HBS := zA hgb
   have HMK := zA (show ∀ W : World, W.heap[g2]? = some (.cells (splice cur.toList (K.length * 1) [.int .i64 16777215]).toArray 3 (0, 0)) → Kd.R (Kd.int .i64) 3 W w0.heap.size o2 (.slice (some ⟨g2, 0, none⟩) K.length d2) K from fun W hW => ⟨HR0.out, inner, ⟨HOWN.out.1, .inr ⟨g2, d2, (splice cur.toList (K.length * 1) [.int .i64 16777215]).toArray, rfl, hgb, hW, hle, hmax, by rw [List.size_toArray, length_splice _ _ _ HFT.out, Array.length_toList]; exact hszc, by rw [List.toList_toArray]; show List.take (K.length * 1) _ = inner; rw [splice_pre _ _ _ HFT.out]; exact htk⟩⟩, HRP.out.imp_ (fun p c hp => hp)⟩)
   clear hgb hbc hle hmax hszc htk hsz1
   have BXA := zA (blk_alloc BX.out (.cells #[.int .i64 16777215] 3 (0, 0)))
   obtain ⟨⟨t0, tf0⟩, ⟨t1, tf1⟩, ⟨t2, tf2⟩, ⟨t3, tf3⟩⟩ := cells4 BXA.out
   have HSP := zA (show spoil (b, ls, K, Ps) (u % 10) v = (b, ls, K ++ [16777215], Ps) from by unfold spoil; rw [if_neg c0, if_neg c1, if_pos c2])
   go_wp2_with (at_builtin; refine Rep.wpList_append_place rfl (.tmp 25) (.tmp 26) 22 3 rfl iI Try.underlying22 HII.out 1 HZ1.out g2 K.length d2 zq33 cur.toList HBC.out ⟨w4.heap.size, 0, none⟩ 1 1 zq33 [.int .i64 16777215] rfl (HNW.out _ (Below.refl _ _)) zq56 hroom HFT.out w0.heap.size w0 (grew_trans HB4.out (below_alloc (Below.refl _ _) _)) HBS.out ?_; intro w6 hw6; obtain ⟨hr6, hB6, hK6⟩ := hw6; have HR6 := zA hr6; have HB6 := zA hB6; have HKP := zA (show Kept w4 w6 (fun k => k = g2) from (Kept.of_below (below_alloc (Below.refl _ _) _) (fun k => k = g2)).then_ hK6 (fun _ h => .inl h)); have BX6 := zA (blk_kept BX.out HKP.out (fun e => by have h1 := HG2.out.1; have h2 := GX.out; have e' : gx = g2 := e; omega)); have BR6 := zA (blk_kept BR.out HKP.out (fun e => by have h1 := HG2.out.1; have h2 := GX.out; have e' : gr = g2 := e; omega)); obtain ⟨⟨xz0, xzf0⟩, ⟨xz1, xzf1⟩, ⟨xz2, xzf2⟩, ⟨xz3, xzf3⟩⟩ := cells4 BX6.out; have BXW := zA (show (w6.setCell ⟨gx, 2, none⟩ (.slice (some ⟨g2, 0, none⟩) (K.length + 1) d2)).heap[gx]? = some (.cells #[.int .i64 b, .slice B1 ls.length d1, .slice (some ⟨g2, 0, none⟩) (K.length + 1) d2, .slice B3 Ps.length d3] 50 (0, 0)) from blk_put (cs := #[.int .i64 b, .slice B1 ls.length d1, .slice (some ⟨g2, 0, none⟩) K.length d2, .slice B3 Ps.length d3]) BX6.out 2 _ rfl); have BRW := zA (show (w6.setCell ⟨gx, 2, none⟩ (.slice (some ⟨g2, 0, none⟩) (K.length + 1) d2)).heap[gr]? = some (.cells #[.int .i64 0, .slice none 0 0, .slice none 0 0, .slice none 0 0] 50 (0, 0)) from blk_far BR6.out (fun e => NXR.out e.symm) _); obtain ⟨⟨y0, yf0⟩, ⟨y1, yf1⟩, ⟨y2, yf2⟩, ⟨y3, yf3⟩⟩ := cells4 BXW.out; obtain ⟨⟨z0, zf0⟩, ⟨z1, zf1⟩, ⟨z2, zf2⟩, ⟨z3, zf3⟩⟩ := cells4 BRW.out; clear hr6 hB6 hK6)
   refine bodyPost_ret (results_cell_row rfl _ _ gr 50 #[.int .i64 b, .slice B1 ls.length d1, .slice (some ⟨g2, 0, none⟩) (K.length + 1) d2, .slice B3 Ps.length d3] (0, 0) _ rfl (by (with_reducible repeat (first | refine blk_drewN ?_ _ | refine blk_drew ?_ | refine blk_alloc ?_ _)); refine blk_put (cs := #[.int .i64 b, .slice B1 ls.length d1, .slice (some ⟨g2, 0, none⟩) (K.length + 1) d2, .slice none 0 0]) ?_ 3 _ rfl; (with_reducible repeat (first | refine blk_drewN ?_ _ | refine blk_drew ?_ | refine blk_alloc ?_ _)); refine blk_put (cs := #[.int .i64 b, .slice B1 ls.length d1, .slice none 0 0, .slice none 0 0]) ?_ 2 _ rfl; (with_reducible repeat (first | refine blk_drewN ?_ _ | refine blk_drew ?_ | refine blk_alloc ?_ _)); refine blk_put (cs := #[.int .i64 b, .slice none 0 0, .slice none 0 0, .slice none 0 0]) ?_ 1 _ rfl; (with_reducible repeat (first | refine blk_drewN ?_ _ | refine blk_drew ?_ | refine blk_alloc ?_ _)); refine blk_put (cs := #[.int .i64 0, .slice none 0 0, .slice none 0 0, .slice none 0 0]) ?_ 0 _ rfl; (with_reducible repeat (first | refine blk_drewN ?_ _ | refine blk_drew ?_ | refine blk_alloc ?_ _)); exact BRW.out) Try.underlying50 rfl zq12) rfl ?_
   rw [HSP.out]
   refine ⟨B1, d1, some ⟨g2, 0, none⟩, d2, B3, d3, zq54, fun ht => ?_, fun hnt => ?_, (bel5 GX0.out HB6.out)⟩
   ·have h : (K ++ [16777215]).length ≤ Ps.length := ht.2; rw [List.length_append, List.length_singleton] at h; have := HPP.out; omega
   ·exact ⟨kMk b (Kd.S_reads' (far5 HelpBB.tBB FXR.out (j := 2) (Kd.S_kept S14.out HKP.out (fun q hq e => (O1.out q hq).2.2.1 (by have e' : q = g2 := e; rw [e']; exact HG2.out.2.2))) (fun q hq => .inl (O1.out q hq).1))).2 (Kd.R_reads' (far5 HelpI.tI FXR.out (j := 2) (HMK.out w6 HR6.out) (fun q hq => .inl (O2.out q hq).1))).2 (Kd.S_reads' (far5 HelpII.tII FXR.out (j := 2) (Kd.S_kept S34.out HKP.out (fun q hq e => by have e' : q = g2 := e; rw [e'] at hq; exact HG2.out.2.1 hq)) (fun q hq => .inl (O3.out q hq).1))).2, (kept5 GX.out (j := 2) (HKW.out.then_ HKP.out (fun q e => .inl (.inr (by have e' : q = g2 := e; rw [e']; exact HG2.out.2.2)))))⟩
 by_cases c3 : u % 10 = 3
 case pos =>
  have HOW := zA (show ∀ q, (.slice B3 Ps.length d3 : Value).ownBlock = some q → o3 q from fun q h => (Kd.S_R S34.out).1 q h)
  have HOWN := zA (show ∀ q, (.slice B3 Ps.length d3 : Value).ownBlock = some q → q < w.heap.size from fun q h => (O3.out q (HOW.out q h)).1)
  have HZ4 := zA (show w0.heap.size ≤ w4.heap.size from HB4.out.size)
  have HSP := zA (show spoil (b, ls, K, Ps) (u % 10) v = (b, ls, K, Ps ++ [[b]]) from by unfold spoil; rw [if_neg c0, if_neg c1, if_neg c2, if_pos c3])
  go_wp2_with (first | ((with_reducible refine gate_dst (N := 35) rfl ?_); refine Kd.R_lit (Kd.int .i64) _ 3 ?hg (N := 35) ?hd (xs := ([b] : List Int)) (inner := [.int .i64 b]) (ok := fun _ => True) (okp := fun _ => True) ?hr ?hp (fun _ hk => hk) trivial (Below.refl _ _) (Nat.le_refl _) zq14 ?_; (case hd => rfl); (case hg => rfl); (case hr => first | (go_simp; done) | (go_simp; rfl)); (case hp => exact (Reps.one (show Kd.M (Kd.int .i64) _ _ _ b [.int .i64 b] from rfl) (Reps.none _ _))); intro v5 w5 ho5 hb5 hg5_ hn5_; clear hg5_ hn5_; obtain ⟨A5, c5, e5⟩ := Kd.R_slice ho5; (try simp only [List.length_cons, List.length_nil, Nat.zero_add, Nat.reduceAdd] at e5); subst e5; have HO5 := zA ho5; have HB5 := zA (show Below w4.heap.size w4 w5 from hb5); have BX5 := zA (blk_below BX.out HB5.out); obtain ⟨⟨xx0, xxf0⟩, ⟨xx1, xxf1⟩, ⟨xx2, xxf2⟩, ⟨xx3, xxf3⟩⟩ := cells4 BX5.out; obtain ⟨⟨xy0, xyf0⟩, ⟨xy1, xyf1⟩, ⟨xy2, xyf2⟩, ⟨xy3, xyf3⟩⟩ := cells4 (blk_alloc BX5.out (.cells #[.slice A5 1 c5] 22 (0, 0))); clear ho5 hb5) | (at_builtin; refine Kd.S_append HelpII.kI (w0 := w0) w0.heap.size rfl (.tmp 32) (.tmp 36) 42 22 (.slice none 0 0) 24 rfl Try.underlying42 infoII rfl zq13 zq3 (.slice B3 Ps.length d3) Ps [b] [.slice A5 1 c5] (fun q => o3 q ∨ w4.heap.size ≤ q) (fun q => w4.heap.size ≤ q) rfl rfl ?aP ?aK ?aF ?aO ?aB ?aS ?aL ?_; (case aP => exact Kd.M_row (Kd.R_mono (Kd.R_lower (Kd.R_bound (Kd.R_below HO5.out zq7)) HZ4.out) (fun q hq => hq.2.1))); (case aK => exact fun q hq => ⟨.inr hq, fun e => by have h1 := HOWN.out q e.symm; have h2 := GL.out; omega⟩); (case aF => exact fun q hq => .inr (Nat.le_trans HB5.out.size (Nat.le_trans (below_size zq7) hq))); (case aO => exact Kd.S_mono (Kd.S_below (Kd.S_below S34.out HB5.out) zq7) (fun q hq => ⟨.inl hq, fun h => by have h1 := (O3.out q hq).1; have h2 := GL.out; omega⟩)); (case aB => exact grew_trans (grew_trans HB4.out HB5.out) zq7); (case aS => exact (grew_trans (grew_trans HB4.out HB5.out) zq7).size); (case aL => omega); intro v6 w6 hO6 hB6 hg6 hat6; obtain ⟨A6, c6, e6⟩ := Kd.S_slice hO6; rw [show (Ps ++ [[b]]).length = Ps.length + 1 from by rw [List.length_append, List.length_singleton]] at e6; subst e6; have HO6 := zA hO6; have HB6 := zA hB6; have HKP := zA (show Kept w4 w6 (fun q => some q = (.slice B3 Ps.length d3 : Value).ownBlock) from ⟨Nat.le_trans HB5.out.size (Nat.le_trans (below_size zq7) hg6.size), fun q hq hne => (hg6.block q (Nat.lt_of_lt_of_le hq (Nat.le_trans HB5.out.size (below_size zq7))) hne).trans (((grew_trans HB5.out zq7).block q hq))⟩); have BX6 := zA (blk_kept BX.out HKP.out (fun e => by have h1 := HOWN.out _ e.symm; have h2 := GX.out; omega)); have BR6 := zA (blk_kept BR.out HKP.out (fun e => by have h1 := HOWN.out _ e.symm; have h2 := GX.out; omega)); obtain ⟨⟨xz0, xzf0⟩, ⟨xz1, xzf1⟩, ⟨xz2, xzf2⟩, ⟨xz3, xzf3⟩⟩ := cells4 BX6.out; have BXW := zA (show (w6.setCell ⟨gx, 3, none⟩ (.slice A6 (Ps.length + 1) c6)).heap[gx]? = some (.cells #[.int .i64 b, .slice B1 ls.length d1, .slice B2 K.length d2, .slice A6 (Ps.length + 1) c6] 50 (0, 0)) from blk_put (cs := #[.int .i64 b, .slice B1 ls.length d1, .slice B2 K.length d2, .slice B3 Ps.length d3]) BX6.out 3 _ rfl); have BRW := zA (show (w6.setCell ⟨gx, 3, none⟩ (.slice A6 (Ps.length + 1) c6)).heap[gr]? = some (.cells #[.int .i64 0, .slice none 0 0, .slice none 0 0, .slice none 0 0] 50 (0, 0)) from blk_far BR6.out (fun e => NXR.out e.symm) _); obtain ⟨⟨y0, yf0⟩, ⟨y1, yf1⟩, ⟨y2, yf2⟩, ⟨y3, yf3⟩⟩ := cells4 BXW.out; obtain ⟨⟨z0, zf0⟩, ⟨z1, zf1⟩, ⟨z2, zf2⟩, ⟨z3, zf3⟩⟩ := cells4 BRW.out; clear hO6 hB6 hg6 hat6))
  refine bodyPost_ret (results_cell_row rfl _ _ gr 50 #[.int .i64 b, .slice B1 ls.length d1, .slice B2 K.length d2, .slice A6 (Ps.length + 1) c6] (0, 0) _ rfl (by (with_reducible repeat (first | refine blk_drewN ?_ _ | refine blk_drew ?_ | refine blk_alloc ?_ _)); refine blk_put (cs := #[.int .i64 b, .slice B1 ls.length d1, .slice B2 K.length d2, .slice none 0 0]) ?_ 3 _ rfl; (with_reducible repeat (first | refine blk_drewN ?_ _ | refine blk_drew ?_ | refine blk_alloc ?_ _)); refine blk_put (cs := #[.int .i64 b, .slice B1 ls.length d1, .slice none 0 0, .slice none 0 0]) ?_ 2 _ rfl; (with_reducible repeat (first | refine blk_drewN ?_ _ | refine blk_drew ?_ | refine blk_alloc ?_ _)); refine blk_put (cs := #[.int .i64 b, .slice none 0 0, .slice none 0 0, .slice none 0 0]) ?_ 1 _ rfl; (with_reducible repeat (first | refine blk_drewN ?_ _ | refine blk_drew ?_ | refine blk_alloc ?_ _)); refine blk_put (cs := #[.int .i64 0, .slice none 0 0, .slice none 0 0, .slice none 0 0]) ?_ 0 _ rfl; (with_reducible repeat (first | refine blk_drewN ?_ _ | refine blk_drew ?_ | refine blk_alloc ?_ _)); exact BRW.out) Try.underlying50 rfl zq12) rfl ?_
  rw [HSP.out]
  refine ⟨B1, d1, B2, d2, A6, c6, zq54, fun ht => ?_, fun hnt => ?_, (bel5 GX0.out HB6.out)⟩
  ·exact kMk b (Kd.S_reads' (far5 HelpBB.tBB FXR.out (j := 3) (Kd.S_kept S14.out HKP.out (fun q hq e => (O1.out q hq).2.2.2 (HOW.out q e.symm))) (fun q hq => .inl (O1.out q hq).1))).2 (Kd.R_reads' (far5 HelpI.tI FXR.out (j := 3) (Kd.R_kept R24.out HKP.out (fun q hq e => (O2.out q hq).2.2 (HOW.out q e.symm))) (fun q hq => .inl (O2.out q hq).1))).2 (lenEq (Kd.S_reads' (far5 HelpII.tII FXR.out (j := 3) HO6.out (fun q hq => (hq.elim (fun h => .inl (O3.out q h).1) (fun h => .inr h) : q < w.heap.size ∨ w4.heap.size ≤ q)))).2 zq54)
  ·exact absurd (show told (b, ls, K, Ps ++ [[b]]) from ⟨b0, by show _ ≤ _; (try rw [List.length_append]); have := HPP.out; simp only [List.length_singleton] at *; omega⟩) hnt
 by_cases c8 : u % 10 = 8
 case pos =>
  have kc := fun (W : World) (C : Array Value) (n c : Nat) => Lib.run_convert_bytes_const (P := Try.prog) W 33 5 C n c Try.underlying33 Try.underlying5
  obtain ⟨hR0, inner, hown, hreps⟩ := Kd.S_R S14.out
  have HRP := zA hreps
  have HOWN := zA hown
  have HR0 := zA hR0
  clear hreps hown hR0
  obtain ⟨iI, hiI, hzI⟩ := Option.map_eq_some_iff.1 infoBB
  simp only [Prod.mk.injEq] at hzI
  obtain ⟨hz0, hz1, hz2⟩ := hzI
  have HII := zA hiI
  have HZ0 := zA hz0
  have HZ1 := zA hz1
  have HZ2 := zA hz2
  clear hiI hz0 hz1 hz2
  have hs4 : (w4.alloc (.cells #[.int .u8 97, .int .u8 98] 5 (2, 3))).heap.size = w4.heap.size + 1 := by simp
  have HS4 := zA hs4
  clear hs4
  have HAB := zA (show Below w4.heap.size w4 ((w4.alloc (.cells #[.int .u8 97, .int .u8 98] 5 (2, 3))).alloc (.cells #[.slice (some ⟨w4.heap.size, 0, none⟩) 2 2] 33 (0, 0))) from below_alloc (below_alloc (Below.refl _ _) _) _)
  have HNW := zA (show ∀ (j : Nat) (q : Value), [.slice (some ⟨w4.heap.size, 0, none⟩) 2 2][j]? = some q → ((w4.alloc (.cells #[.int .u8 97, .int .u8 98] 5 (2, 3))).alloc (.cells #[.slice (some ⟨w4.heap.size, 0, none⟩) 2 2] 33 (0, 0))).cell? ((⟨w4.heap.size + 1, 0, none⟩ : Addr).add j) = some q from fun j q hj => by
   have hadd : (⟨w4.heap.size + 1, 0, none⟩ : Addr).add j = ⟨w4.heap.size + 1, 0 + j, none⟩ := by unfold Addr.add; split <;> simp_all
   have hb := blk_new (w4.alloc (.cells #[.int .u8 97, .int .u8 98] 5 (2, 3))) (.cells #[.slice (some ⟨w4.heap.size, 0, none⟩) 2 2] 33 (0, 0))
   rw [HS4.out] at hb
   rw [hadd, Nat.zero_add, blk_cell hb]
   simpa using hj)
  have HMB := zA (show ((w4.alloc (.cells #[.int .u8 97, .int .u8 98] 5 (2, 3))).alloc (.cells #[.slice (some ⟨w4.heap.size, 0, none⟩) 2 2] 33 (0, 0))).heap[w4.heap.size]? = some (.cells #[.int .u8 97, .int .u8 98] 5 (2, 3)) from (heap_alloc_old (w4.alloc (.cells #[.int .u8 97, .int .u8 98] 5 (2, 3))) _ (by rw [HS4.out]; omega)).trans (heap_alloc_new w4 _))
  have BXA := zA (blk_alloc (blk_alloc BX.out (.cells #[.int .u8 97, .int .u8 98] 5 (2, 3))) (.cells #[.slice (some ⟨w4.heap.size, 0, none⟩) 2 2] 33 (0, 0)))
  obtain ⟨⟨t0, tf0⟩, ⟨t1, tf1⟩, ⟨t2, tf2⟩, ⟨t3, tf3⟩⟩ := cells4 BXA.out
  obtain ⟨⟨a0, af0⟩, ⟨a1, af1⟩, ⟨a2, af2⟩, ⟨a3, af3⟩⟩ := cells4 (blk_alloc BX.out (.cells #[.int .u8 97, .int .u8 98] 5 (2, 3)))
  by_cases hroom : ls.length + 1 ≤ d1
  case neg =>
   have HNO := zA (show B1 = none → ls.length = 0 ∧ d1 = 0 from fun h => by subst h; rcases HOWN.out.2 with ⟨e, h0⟩ | ⟨g, cap, cur, e, _⟩; (injection e with e1 e2 e3; exact ⟨e2, e3⟩); (injection e with e1; cases e1))
   have HCE := zA (show ∀ bb, B1 = some bb → ∀ (j : Nat) (q : Value), inner[j]? = some q → ((w4.alloc (.cells #[.int .u8 97, .int .u8 98] 5 (2, 3))).alloc (.cells #[.slice (some ⟨w4.heap.size, 0, none⟩) 2 2] 33 (0, 0))).cell? (bb.add j) = some q from fun bb hbb j q hj => by
    subst hbb
    rcases HOWN.out.2 with ⟨e, h0⟩ | ⟨g, cap, cur, e, _⟩
    ·cases e
    ·have e1 : bb = ⟨g, 0, none⟩ := by injection e with e1; injection e1
     subst e1
     have h := HOWN.out.cells (g := g) rfl j q hj
     exact (HAB.out.cell (World.block_lt_of_cell? w4 _ h)).trans h)
   have HSP := zA (show spoil (b, ls, K, Ps) (u % 10) v = (b, ls ++ [[97, 98]], K, Ps) from by unfold spoil; rw [if_neg c0, if_neg c1, if_neg c2, if_neg c3, if_neg (fun h => absurd h.1 zq3), if_neg (fun h => absurd h.1 zq3), if_neg (fun h => absurd h.1 zq3), if_neg (fun h => absurd h.1 zq3), if_pos c8])
   go_wp2_with (at_builtin; refine wpList_append_grows _ rfl (.tmp 105) (.tmp 108) 41 rfl 33 iI (.slice none 0 0) 1 24 Try.underlying41 HII.out HZ0.out HZ1.out HZ2.out rfl zq13 B1 ls.length d1 inner zq33 (fun h => HNO.out h) HOWN.out.1 (fun bb hbb j q hj => HCE.out bb hbb j q hj) ⟨w4.heap.size + 1, 0, none⟩ 1 1 [.slice (some ⟨w4.heap.size, 0, none⟩) 2 2] zq33 rfl HNW.out zq56 zq3 (by simp only [maxLen]; omega) zq3 ?_; intro v6 w6 hown6 hg6; obtain ⟨g6, c6, rfl⟩ : ∃ g c, v6 = .slice (some ⟨g, 0, none⟩) (ls.length + 1) c := (by rcases hown6.2 with ⟨_, h0⟩ | ⟨g, cap, _, hv, _⟩; exact absurd h0 zq3; exact ⟨g, cap, hv⟩); have HG6B := zA (show Below _ ((w4.alloc (.cells #[.int .u8 97, .int .u8 98] 5 (2, 3))).alloc (.cells #[.slice (some ⟨w4.heap.size, 0, none⟩) 2 2] 33 (0, 0))) w6 from (⟨hg6.os, hg6.tape, hg6.output, hg6.size, fun q hq => hg6.block q hq zq14⟩ : Below ((w4.alloc (.cells #[.int .u8 97, .int .u8 98] 5 (2, 3))).alloc (.cells #[.slice (some ⟨w4.heap.size, 0, none⟩) 2 2] 33 (0, 0))).heap.size ((w4.alloc (.cells #[.int .u8 97, .int .u8 98] 5 (2, 3))).alloc (.cells #[.slice (some ⟨w4.heap.size, 0, none⟩) 2 2] 33 (0, 0))) w6)); have HOW6 := zA hown6; have HKP := zA (show Below w4.heap.size w4 w6 from grew_trans HAB.out HG6B.out); have HB6 := zA (grew_trans HB4.out HKP.out); have HGX := zA (show some gx ≠ (.slice (some ⟨g6, 0, none⟩) (ls.length + 1) c6 : Value).ownBlock ∧ some gr ≠ (.slice (some ⟨g6, 0, none⟩) (ls.length + 1) c6 : Value).ownBlock from by have h1 := (hown6.lt g6 rfl).1; have h2 := GL.out; have h3 := HAB.out.size; exact ⟨fun e => by have e' : gx = g6 := (by simpa [Value.ownBlock] using e); omega, fun e => by have e' : gr = g6 := (by simpa [Value.ownBlock] using e); omega⟩); have BX6 := zA (blk_below BX.out HKP.out); have BR6 := zA (blk_below BR.out HKP.out); obtain ⟨⟨xz0, xzf0⟩, ⟨xz1, xzf1⟩, ⟨xz2, xzf2⟩, ⟨xz3, xzf3⟩⟩ := cells4 BX6.out; have BXW := zA (show (w6.setCell ⟨gx, 1, none⟩ (.slice (some ⟨g6, 0, none⟩) (ls.length + 1) c6)).heap[gx]? = some (.cells #[.int .i64 b, .slice (some ⟨g6, 0, none⟩) (ls.length + 1) c6, .slice B2 K.length d2, .slice B3 Ps.length d3] 50 (0, 0)) from blk_put (cs := #[.int .i64 b, .slice B1 ls.length d1, .slice B2 K.length d2, .slice B3 Ps.length d3]) BX6.out 1 _ rfl); have BRW := zA (show (w6.setCell ⟨gx, 1, none⟩ (.slice (some ⟨g6, 0, none⟩) (ls.length + 1) c6)).heap[gr]? = some (.cells #[.int .i64 0, .slice none 0 0, .slice none 0 0, .slice none 0 0] 50 (0, 0)) from blk_far BR6.out (fun e => NXR.out e.symm) _); obtain ⟨⟨y0, yf0⟩, ⟨y1, yf1⟩, ⟨y2, yf2⟩, ⟨y3, yf3⟩⟩ := cells4 BXW.out; obtain ⟨⟨z0, zf0⟩, ⟨z1, zf1⟩, ⟨z2, zf2⟩, ⟨z3, zf3⟩⟩ := cells4 BRW.out; clear hown6 hg6)
   refine bodyPost_ret (results_cell_row rfl _ _ gr 50 #[.int .i64 b, .slice (some ⟨g6, 0, none⟩) (ls.length + 1) c6, .slice B2 K.length d2, .slice B3 Ps.length d3] (0, 0) _ rfl (by (with_reducible repeat (first | refine blk_drewN ?_ _ | refine blk_drew ?_ | refine blk_alloc ?_ _)); refine blk_put (cs := #[.int .i64 b, .slice (some ⟨g6, 0, none⟩) (ls.length + 1) c6, .slice B2 K.length d2, .slice none 0 0]) ?_ 3 _ rfl; (with_reducible repeat (first | refine blk_drewN ?_ _ | refine blk_drew ?_ | refine blk_alloc ?_ _)); refine blk_put (cs := #[.int .i64 b, .slice (some ⟨g6, 0, none⟩) (ls.length + 1) c6, .slice none 0 0, .slice none 0 0]) ?_ 2 _ rfl; (with_reducible repeat (first | refine blk_drewN ?_ _ | refine blk_drew ?_ | refine blk_alloc ?_ _)); refine blk_put (cs := #[.int .i64 b, .slice none 0 0, .slice none 0 0, .slice none 0 0]) ?_ 1 _ rfl; (with_reducible repeat (first | refine blk_drewN ?_ _ | refine blk_drew ?_ | refine blk_alloc ?_ _)); refine blk_put (cs := #[.int .i64 0, .slice none 0 0, .slice none 0 0, .slice none 0 0]) ?_ 0 _ rfl; (with_reducible repeat (first | refine blk_drewN ?_ _ | refine blk_drew ?_ | refine blk_alloc ?_ _)); exact BRW.out) Try.underlying50 rfl zq12) rfl ?_
   rw [HSP.out]
   refine ⟨some ⟨g6, 0, none⟩, c6, B2, d2, B3, d3, zq54, fun ht => ?_, fun hnt => ?_, (bel5 GX0.out HB6.out)⟩
   ·have hgx1 : some gx ≠ (.slice (some ⟨g6, 0, none⟩) (ls.length + 1) c6 : Value).ownBlock := HGX.out.1
    have hgr1 : some gr ≠ (.slice (some ⟨g6, 0, none⟩) (ls.length + 1) c6 : Value).ownBlock := HGX.out.2
    refine kMk b ?_ (Kd.R_reads' (far5 HelpI.tI FXR.out (j := 1) (Kd.R_below R24.out HKP.out) (fun q hq => .inl (O2.out q hq).1))).2 (Kd.S_reads' (far5 HelpII.tII FXR.out (j := 1) (Kd.S_below S34.out HKP.out) (fun q hq => .inl (O3.out q hq).1))).2
    have hF := fun (k : Nat) (hx1 : k ≠ gx) (hx2 : k ≠ gr) => (rfl : True = True)
    refine row_read (own_setCell (own_setCell (own_setCell (own_setCell (own_setCell HOW6.out (p := ⟨gx, 1, none⟩) hgx1 _) (p := ⟨gr, 0, none⟩) hgr1 _) (p := ⟨gr, 1, none⟩) hgr1 _) (p := ⟨gr, 2, none⟩) hgr1 _) (p := ⟨gr, 3, none⟩) hgr1 _) ?_ (by show ls.length + 1 = (ls ++ [[97, 98]]).length; rw [List.length_append, List.length_singleton])
    refine Reps.snoc (HRP.out.imp_ (fun p c hp => kB.K_of_M (Kd.M_step hp (fun k hk hlt => by
     have hx1 : k ≠ gx := by have h1 := (O1.out k hk.1).1; have h2 := GX.out; omega
     have hx2 : k ≠ gr := by have h1 := (O1.out k hk.1).1; have h2 := GX.out; omega
     exact ((Below.heap_setCell _ ⟨gr, 3, none⟩ _ k hx2).trans ((Below.heap_setCell _ ⟨gr, 2, none⟩ _ k hx2).trans ((Below.heap_setCell _ ⟨gr, 1, none⟩ _ k hx2).trans ((Below.heap_setCell _ ⟨gr, 0, none⟩ _ k hx2).trans (Below.heap_setCell _ ⟨gx, 1, none⟩ _ k hx1))))).trans (HKP.out.block k hlt))))) (marked_K ?_) rfl
    have hx1 : w4.heap.size ≠ gx := by have h2 := GL.out; omega
    have hx2 : w4.heap.size ≠ gr := by have h2 := GL.out; omega
    exact ((Below.heap_setCell _ ⟨gr, 3, none⟩ _ _ hx2).trans ((Below.heap_setCell _ ⟨gr, 2, none⟩ _ _ hx2).trans ((Below.heap_setCell _ ⟨gr, 1, none⟩ _ _ hx2).trans ((Below.heap_setCell _ ⟨gr, 0, none⟩ _ _ hx2).trans (Below.heap_setCell _ ⟨gx, 1, none⟩ _ _ hx1))))).trans ((HG6B.out.block _ zq42).trans HMB.out)
   ·exact absurd (show told (b, ls ++ [[97, 98]], K, Ps) from ⟨b0, by show K.length ≤ Ps.length; have := HPP.out; omega⟩) hnt
  case pos =>
   rcases HOWN.out.2 with ⟨e, h0⟩ | ⟨g1, cap, cur, e, hgb, hbc, hle, hmax, hszc, htk⟩
   ·exfalso
    injection e with e1 e2 e3
    omega
   have e1 : B1 = some ⟨g1, 0, none⟩ := by injection e
   have e3 : d1 = cap := by injection e
   subst e1 e3
   clear e
   have HG1 := zA (show g1 < w.heap.size ∧ o1 g1 from ⟨(O1.out g1 (HR0.out g1 rfl)).1, HR0.out g1 rfl⟩)
   have HGX := zA (show some gx ≠ (.slice (some ⟨g1, 0, none⟩) (ls.length + 1) d1 : Value).ownBlock ∧ some gr ≠ (.slice (some ⟨g1, 0, none⟩) (ls.length + 1) d1 : Value).ownBlock from by have h1 := HG1.out.1; have h2 := GX.out; exact ⟨fun e => by have e' : gx = g1 := (by simpa [Value.ownBlock] using e); omega, fun e => by have e' : gr = g1 := (by simpa [Value.ownBlock] using e); omega⟩)
   have HBC := zA (show ((w4.alloc (.cells #[.int .u8 97, .int .u8 98] 5 (2, 3))).alloc (.cells #[.slice (some ⟨w4.heap.size, 0, none⟩) 2 2] 33 (0, 0))).heap[g1]? = some (.cells cur.toList.toArray 33 (0, 0)) from by rw [Array.toArray_toList]; exact blk_alloc (blk_alloc hbc _) _)
   have hsz1 : cur.size = d1 * 1 := hszc
   have HFT := zA (show ls.length * 1 + [(.slice (some ⟨w4.heap.size, 0, none⟩) 2 2 : Value)].length ≤ cur.toList.length from by have h : cur.toList.length = cur.size := Array.length_toList; show ls.length * 1 + 1 ≤ cur.toList.length; omega)
   have HBS := zA hgb
   have HMK := zA (show ∀ W : World, W.heap[g1]? = some (.cells (splice cur.toList (ls.length * 1) [.slice (some ⟨w4.heap.size, 0, none⟩) 2 2]).toArray 33 (0, 0)) → W.ownsRow w0.heap.size 33 1 (.slice (some ⟨g1, 0, none⟩) (ls.length + 1) d1) (ls.length + 1) (inner ++ [.slice (some ⟨w4.heap.size, 0, none⟩) 2 2]) from fun W hW => ⟨by have h : inner.length = ls.length * 1 := HOWN.out.1; rw [List.length_append, List.length_singleton]; omega, .inr ⟨g1, d1, (splice cur.toList (ls.length * 1) [.slice (some ⟨w4.heap.size, 0, none⟩) 2 2]).toArray, rfl, hgb, hW, hroom, hmax, by rw [List.size_toArray, length_splice _ _ _ HFT.out, Array.length_toList]; exact hszc, by rw [List.toList_toArray]; have h := splice_all cur.toList (ls.length * 1) [(.slice (some ⟨w4.heap.size, 0, none⟩) 2 2 : Value)] HFT.out; have h2 : List.take (ls.length * 1) cur.toList = inner := htk; rw [h2] at h; have e : (ls.length + 1) * 1 = ls.length * 1 + [(.slice (some ⟨w4.heap.size, 0, none⟩) 2 2 : Value)].length := (by show (ls.length + 1) * 1 = ls.length * 1 + 1; omega); rw [e]; exact h⟩⟩)
   clear hgb hbc hle hmax hszc htk hsz1
   have HSP := zA (show spoil (b, ls, K, Ps) (u % 10) v = (b, ls ++ [[97, 98]], K, Ps) from by unfold spoil; rw [if_neg c0, if_neg c1, if_neg c2, if_neg c3, if_neg (fun h => absurd h.1 zq3), if_neg (fun h => absurd h.1 zq3), if_neg (fun h => absurd h.1 zq3), if_neg (fun h => absurd h.1 zq3), if_pos c8])
   go_wp2_with (at_builtin; refine Rep.wpList_append_place rfl (.tmp 105) (.tmp 108) 41 33 rfl iI Try.underlying41 HII.out 1 HZ1.out g1 ls.length d1 zq33 cur.toList HBC.out ⟨w4.heap.size + 1, 0, none⟩ 1 1 zq33 [.slice (some ⟨w4.heap.size, 0, none⟩) 2 2] rfl HNW.out zq56 hroom HFT.out w0.heap.size w0 (grew_trans HB4.out HAB.out) HBS.out ?_; intro w6 hw6; obtain ⟨hr6, hB6, hK6⟩ := hw6; have HR6 := zA hr6; have HB6 := zA hB6; have HK6 := zA hK6; have HKP := zA (show Kept w4 w6 (fun k => k = g1) from (Kept.of_below HAB.out (fun k => k = g1)).then_ hK6 (fun _ h => .inl h)); have BX6 := zA (blk_kept BX.out HKP.out (fun e => by have h1 := HG1.out.1; have h2 := GX.out; have e' : gx = g1 := e; omega)); have BR6 := zA (blk_kept BR.out HKP.out (fun e => by have h1 := HG1.out.1; have h2 := GX.out; have e' : gr = g1 := e; omega)); obtain ⟨⟨xz0, xzf0⟩, ⟨xz1, xzf1⟩, ⟨xz2, xzf2⟩, ⟨xz3, xzf3⟩⟩ := cells4 BX6.out; have BXW := zA (show (w6.setCell ⟨gx, 1, none⟩ (.slice (some ⟨g1, 0, none⟩) (ls.length + 1) d1)).heap[gx]? = some (.cells #[.int .i64 b, .slice (some ⟨g1, 0, none⟩) (ls.length + 1) d1, .slice B2 K.length d2, .slice B3 Ps.length d3] 50 (0, 0)) from blk_put (cs := #[.int .i64 b, .slice (some ⟨g1, 0, none⟩) ls.length d1, .slice B2 K.length d2, .slice B3 Ps.length d3]) BX6.out 1 _ rfl); have BRW := zA (show (w6.setCell ⟨gx, 1, none⟩ (.slice (some ⟨g1, 0, none⟩) (ls.length + 1) d1)).heap[gr]? = some (.cells #[.int .i64 0, .slice none 0 0, .slice none 0 0, .slice none 0 0] 50 (0, 0)) from blk_far BR6.out (fun e => NXR.out e.symm) _); obtain ⟨⟨y0, yf0⟩, ⟨y1, yf1⟩, ⟨y2, yf2⟩, ⟨y3, yf3⟩⟩ := cells4 BXW.out; obtain ⟨⟨z0, zf0⟩, ⟨z1, zf1⟩, ⟨z2, zf2⟩, ⟨z3, zf3⟩⟩ := cells4 BRW.out; clear hr6 hB6 hK6)
   refine bodyPost_ret (results_cell_row rfl _ _ gr 50 #[.int .i64 b, .slice (some ⟨g1, 0, none⟩) (ls.length + 1) d1, .slice B2 K.length d2, .slice B3 Ps.length d3] (0, 0) _ rfl (by (with_reducible repeat (first | refine blk_drewN ?_ _ | refine blk_drew ?_ | refine blk_alloc ?_ _)); refine blk_put (cs := #[.int .i64 b, .slice (some ⟨g1, 0, none⟩) (ls.length + 1) d1, .slice B2 K.length d2, .slice none 0 0]) ?_ 3 _ rfl; (with_reducible repeat (first | refine blk_drewN ?_ _ | refine blk_drew ?_ | refine blk_alloc ?_ _)); refine blk_put (cs := #[.int .i64 b, .slice (some ⟨g1, 0, none⟩) (ls.length + 1) d1, .slice none 0 0, .slice none 0 0]) ?_ 2 _ rfl; (with_reducible repeat (first | refine blk_drewN ?_ _ | refine blk_drew ?_ | refine blk_alloc ?_ _)); refine blk_put (cs := #[.int .i64 b, .slice none 0 0, .slice none 0 0, .slice none 0 0]) ?_ 1 _ rfl; (with_reducible repeat (first | refine blk_drewN ?_ _ | refine blk_drew ?_ | refine blk_alloc ?_ _)); refine blk_put (cs := #[.int .i64 0, .slice none 0 0, .slice none 0 0, .slice none 0 0]) ?_ 0 _ rfl; (with_reducible repeat (first | refine blk_drewN ?_ _ | refine blk_drew ?_ | refine blk_alloc ?_ _)); exact BRW.out) Try.underlying50 rfl zq12) rfl ?_
   rw [HSP.out]
   refine ⟨some ⟨g1, 0, none⟩, d1, B2, d2, B3, d3, zq54, fun ht => ?_, fun hnt => ?_, (bel5 GX0.out HB6.out)⟩
   ·have hgx1 : some gx ≠ (.slice (some ⟨g1, 0, none⟩) (ls.length + 1) d1 : Value).ownBlock := HGX.out.1
    have hgr1 : some gr ≠ (.slice (some ⟨g1, 0, none⟩) (ls.length + 1) d1 : Value).ownBlock := HGX.out.2
    refine kMk b ?_ (Kd.R_reads' (far5 HelpI.tI FXR.out (j := 1) (Kd.R_kept R24.out HKP.out (fun q hq e => (O1.out g1 HG1.out.2).2.2.1 (by have e' : q = g1 := e; rw [← e']; exact hq))) (fun q hq => .inl (O2.out q hq).1))).2 (Kd.S_reads' (far5 HelpII.tII FXR.out (j := 1) (Kd.S_kept S34.out HKP.out (fun q hq e => (O1.out g1 HG1.out.2).2.2.2 (by have e' : q = g1 := e; rw [← e']; exact hq))) (fun q hq => .inl (O3.out q hq).1))).2
    have hF := fun (k : Nat) (hx1 : k ≠ gx) (hx2 : k ≠ gr) => (rfl : True = True)
    refine row_read (own_setCell (own_setCell (own_setCell (own_setCell (own_setCell (HMK.out w6 HR6.out) (p := ⟨gx, 1, none⟩) hgx1 _) (p := ⟨gr, 0, none⟩) hgr1 _) (p := ⟨gr, 1, none⟩) hgr1 _) (p := ⟨gr, 2, none⟩) hgr1 _) (p := ⟨gr, 3, none⟩) hgr1 _) ?_ (by show ls.length + 1 = (ls ++ [[97, 98]]).length; rw [List.length_append, List.length_singleton])
    refine Reps.snoc (HRP.out.imp_ (fun p c hp => kB.K_of_M (Kd.M_step hp (fun k hk hlt => by
     have hx1 : k ≠ gx := by have h1 := (O1.out k hk.1).1; have h2 := GX.out; omega
     have hx2 : k ≠ gr := by have h1 := (O1.out k hk.1).1; have h2 := GX.out; omega
     exact ((Below.heap_setCell _ ⟨gr, 3, none⟩ _ k hx2).trans ((Below.heap_setCell _ ⟨gr, 2, none⟩ _ k hx2).trans ((Below.heap_setCell _ ⟨gr, 1, none⟩ _ k hx2).trans ((Below.heap_setCell _ ⟨gr, 0, none⟩ _ k hx2).trans (Below.heap_setCell _ ⟨gx, 1, none⟩ _ k hx1))))).trans (HKP.out.2 k hlt (fun e => hk.2 (by have e' : k = g1 := e; rw [e']; rfl))))))) (marked_K ?_) rfl
    have hx1 : w4.heap.size ≠ gx := by have h2 := GL.out; omega
    have hx2 : w4.heap.size ≠ gr := by have h2 := GL.out; omega
    exact ((Below.heap_setCell _ ⟨gr, 3, none⟩ _ _ hx2).trans ((Below.heap_setCell _ ⟨gr, 2, none⟩ _ _ hx2).trans ((Below.heap_setCell _ ⟨gr, 1, none⟩ _ _ hx2).trans ((Below.heap_setCell _ ⟨gr, 0, none⟩ _ _ hx2).trans (Below.heap_setCell _ ⟨gx, 1, none⟩ _ _ hx1))))).trans ((HK6.out.2 _ zq42 (fun e => by have h1 := HG1.out.1; have h2 := GL.out; have e' : w4.heap.size = g1 := e; omega)).trans HMB.out)
   ·exact absurd (show told (b, ls ++ [[97, 98]], K, Ps) from ⟨b0, by show K.length ≤ Ps.length; have := HPP.out; omega⟩) hnt
 by_cases hn : 0 < K.length
 case neg =>
  have hK0 : K = [] := List.eq_nil_of_length_eq_zero zq3
  have hP0 : Ps = [] := List.eq_nil_of_length_eq_zero (by have := HPP.out; omega)
  subst hK0 hP0
  by_cases c4 : u % 10 = 4
  case pos =>
   have HSP := zA (show spoil (b, ls, [], []) (u % 10) v = (b, [], [], []) from by unfold spoil; rw [if_neg c0, if_neg c1, if_neg c2, if_neg c3, if_neg (fun h => absurd h.2 zq14), if_neg (fun h => absurd h.2 zq14), if_neg (fun h => absurd h.2 zq14), if_neg (fun h => absurd h.2 zq14), if_neg c8, if_neg zq14])
   have BXW := zA (show (w4.setCell ⟨gx, 1, none⟩ (.slice none 0 0)).heap[gx]? = some (.cells #[.int .i64 b, .slice none 0 0, .slice B2 0 d2, .slice B3 0 d3] 50 (0, 0)) from blk_put (cs := #[.int .i64 b, .slice B1 ls.length d1, .slice B2 0 d2, .slice B3 0 d3]) BX.out 1 _ rfl)
   have BRW := zA (show (w4.setCell ⟨gx, 1, none⟩ (.slice none 0 0)).heap[gr]? = some (.cells #[.int .i64 0, .slice none 0 0, .slice none 0 0, .slice none 0 0] 50 (0, 0)) from blk_far BR.out (fun e => NXR.out e.symm) _)
   obtain ⟨⟨y0, yf0⟩, ⟨y1, yf1⟩, ⟨y2, yf2⟩, ⟨y3, yf3⟩⟩ := cells4 BXW.out
   obtain ⟨⟨z0, zf0⟩, ⟨z1, zf1⟩, ⟨z2, zf2⟩, ⟨z3, zf3⟩⟩ := cells4 BRW.out
   go_wp2_with fail
   refine bodyPost_ret (results_cell_row rfl _ _ gr 50 #[.int .i64 b, .slice none 0 0, .slice B2 0 d2, .slice B3 0 d3] (0, 0) _ rfl (by (with_reducible repeat (first | refine blk_drewN ?_ _ | refine blk_drew ?_ | refine blk_alloc ?_ _)); refine blk_put (cs := #[.int .i64 b, .slice none 0 0, .slice B2 0 d2, .slice none 0 0]) ?_ 3 _ rfl; (with_reducible repeat (first | refine blk_drewN ?_ _ | refine blk_drew ?_ | refine blk_alloc ?_ _)); refine blk_put (cs := #[.int .i64 b, .slice none 0 0, .slice none 0 0, .slice none 0 0]) ?_ 2 _ rfl; (with_reducible repeat (first | refine blk_drewN ?_ _ | refine blk_drew ?_ | refine blk_alloc ?_ _)); refine blk_put (cs := #[.int .i64 b, .slice none 0 0, .slice none 0 0, .slice none 0 0]) ?_ 1 _ rfl; (with_reducible repeat (first | refine blk_drewN ?_ _ | refine blk_drew ?_ | refine blk_alloc ?_ _)); refine blk_put (cs := #[.int .i64 0, .slice none 0 0, .slice none 0 0, .slice none 0 0]) ?_ 0 _ rfl; (with_reducible repeat (first | refine blk_drewN ?_ _ | refine blk_drew ?_ | refine blk_alloc ?_ _)); exact BRW.out) Try.underlying50 rfl zq12) rfl ?_
   rw [HSP.out]
   refine ⟨none, 0, B2, d2, B3, d3, rfl, fun ht => ?_, fun hnt => ?_, (bel5 GX0.out HB4.out)⟩
   ·exact kMk b ⟨Nat.le_refl _, Kd.C_nil _ _⟩ (Kd.R_reads' (far5 HelpI.tI FXR.out (j := 1) R24.out (fun q hq => .inl (O2.out q hq).1))).2 (Kd.S_reads' (far5 HelpII.tII FXR.out (j := 1) S34.out (fun q hq => .inl (O3.out q hq).1))).2
   ·exact absurd ⟨b0, Nat.le_refl _⟩ hnt
  by_cases c5 : u % 10 = 5
  case pos =>
   have HSP := zA (show spoil (b, ls, [], []) (u % 10) v = (b, [], [], []) from by unfold spoil; rw [if_neg c0, if_neg c1, if_neg c2, if_neg c3, if_neg (fun h => absurd h.2 zq14), if_neg (fun h => absurd h.2 zq14), if_neg (fun h => absurd h.2 zq14), if_neg (fun h => absurd h.2 zq14), if_neg c8, if_neg zq14])
   have BXW := zA (show (w4.setCell ⟨gx, 1, none⟩ (.slice none 0 0)).heap[gx]? = some (.cells #[.int .i64 b, .slice none 0 0, .slice B2 0 d2, .slice B3 0 d3] 50 (0, 0)) from blk_put (cs := #[.int .i64 b, .slice B1 ls.length d1, .slice B2 0 d2, .slice B3 0 d3]) BX.out 1 _ rfl)
   have BRW := zA (show (w4.setCell ⟨gx, 1, none⟩ (.slice none 0 0)).heap[gr]? = some (.cells #[.int .i64 0, .slice none 0 0, .slice none 0 0, .slice none 0 0] 50 (0, 0)) from blk_far BR.out (fun e => NXR.out e.symm) _)
   obtain ⟨⟨y0, yf0⟩, ⟨y1, yf1⟩, ⟨y2, yf2⟩, ⟨y3, yf3⟩⟩ := cells4 BXW.out
   obtain ⟨⟨z0, zf0⟩, ⟨z1, zf1⟩, ⟨z2, zf2⟩, ⟨z3, zf3⟩⟩ := cells4 BRW.out
   go_wp2_with fail
   refine bodyPost_ret (results_cell_row rfl _ _ gr 50 #[.int .i64 b, .slice none 0 0, .slice B2 0 d2, .slice B3 0 d3] (0, 0) _ rfl (by (with_reducible repeat (first | refine blk_drewN ?_ _ | refine blk_drew ?_ | refine blk_alloc ?_ _)); refine blk_put (cs := #[.int .i64 b, .slice none 0 0, .slice B2 0 d2, .slice none 0 0]) ?_ 3 _ rfl; (with_reducible repeat (first | refine blk_drewN ?_ _ | refine blk_drew ?_ | refine blk_alloc ?_ _)); refine blk_put (cs := #[.int .i64 b, .slice none 0 0, .slice none 0 0, .slice none 0 0]) ?_ 2 _ rfl; (with_reducible repeat (first | refine blk_drewN ?_ _ | refine blk_drew ?_ | refine blk_alloc ?_ _)); refine blk_put (cs := #[.int .i64 b, .slice none 0 0, .slice none 0 0, .slice none 0 0]) ?_ 1 _ rfl; (with_reducible repeat (first | refine blk_drewN ?_ _ | refine blk_drew ?_ | refine blk_alloc ?_ _)); refine blk_put (cs := #[.int .i64 0, .slice none 0 0, .slice none 0 0, .slice none 0 0]) ?_ 0 _ rfl; (with_reducible repeat (first | refine blk_drewN ?_ _ | refine blk_drew ?_ | refine blk_alloc ?_ _)); exact BRW.out) Try.underlying50 rfl zq12) rfl ?_
   rw [HSP.out]
   refine ⟨none, 0, B2, d2, B3, d3, rfl, fun ht => ?_, fun hnt => ?_, (bel5 GX0.out HB4.out)⟩
   ·exact kMk b ⟨Nat.le_refl _, Kd.C_nil _ _⟩ (Kd.R_reads' (far5 HelpI.tI FXR.out (j := 1) R24.out (fun q hq => .inl (O2.out q hq).1))).2 (Kd.S_reads' (far5 HelpII.tII FXR.out (j := 1) S34.out (fun q hq => .inl (O3.out q hq).1))).2
   ·exact absurd ⟨b0, Nat.le_refl _⟩ hnt
  by_cases c6 : u % 10 = 6
  case pos =>
   have HSP := zA (show spoil (b, ls, [], []) (u % 10) v = (b, [], [], []) from by unfold spoil; rw [if_neg c0, if_neg c1, if_neg c2, if_neg c3, if_neg (fun h => absurd h.2 zq14), if_neg (fun h => absurd h.2 zq14), if_neg (fun h => absurd h.2 zq14), if_neg (fun h => absurd h.2 zq14), if_neg c8, if_neg zq14])
   have BXW := zA (show (w4.setCell ⟨gx, 1, none⟩ (.slice none 0 0)).heap[gx]? = some (.cells #[.int .i64 b, .slice none 0 0, .slice B2 0 d2, .slice B3 0 d3] 50 (0, 0)) from blk_put (cs := #[.int .i64 b, .slice B1 ls.length d1, .slice B2 0 d2, .slice B3 0 d3]) BX.out 1 _ rfl)
   have BRW := zA (show (w4.setCell ⟨gx, 1, none⟩ (.slice none 0 0)).heap[gr]? = some (.cells #[.int .i64 0, .slice none 0 0, .slice none 0 0, .slice none 0 0] 50 (0, 0)) from blk_far BR.out (fun e => NXR.out e.symm) _)
   obtain ⟨⟨y0, yf0⟩, ⟨y1, yf1⟩, ⟨y2, yf2⟩, ⟨y3, yf3⟩⟩ := cells4 BXW.out
   obtain ⟨⟨z0, zf0⟩, ⟨z1, zf1⟩, ⟨z2, zf2⟩, ⟨z3, zf3⟩⟩ := cells4 BRW.out
   go_wp2_with fail
   refine bodyPost_ret (results_cell_row rfl _ _ gr 50 #[.int .i64 b, .slice none 0 0, .slice B2 0 d2, .slice B3 0 d3] (0, 0) _ rfl (by (with_reducible repeat (first | refine blk_drewN ?_ _ | refine blk_drew ?_ | refine blk_alloc ?_ _)); refine blk_put (cs := #[.int .i64 b, .slice none 0 0, .slice B2 0 d2, .slice none 0 0]) ?_ 3 _ rfl; (with_reducible repeat (first | refine blk_drewN ?_ _ | refine blk_drew ?_ | refine blk_alloc ?_ _)); refine blk_put (cs := #[.int .i64 b, .slice none 0 0, .slice none 0 0, .slice none 0 0]) ?_ 2 _ rfl; (with_reducible repeat (first | refine blk_drewN ?_ _ | refine blk_drew ?_ | refine blk_alloc ?_ _)); refine blk_put (cs := #[.int .i64 b, .slice none 0 0, .slice none 0 0, .slice none 0 0]) ?_ 1 _ rfl; (with_reducible repeat (first | refine blk_drewN ?_ _ | refine blk_drew ?_ | refine blk_alloc ?_ _)); refine blk_put (cs := #[.int .i64 0, .slice none 0 0, .slice none 0 0, .slice none 0 0]) ?_ 0 _ rfl; (with_reducible repeat (first | refine blk_drewN ?_ _ | refine blk_drew ?_ | refine blk_alloc ?_ _)); exact BRW.out) Try.underlying50 rfl zq12) rfl ?_
   rw [HSP.out]
   refine ⟨none, 0, B2, d2, B3, d3, rfl, fun ht => ?_, fun hnt => ?_, (bel5 GX0.out HB4.out)⟩
   ·exact kMk b ⟨Nat.le_refl _, Kd.C_nil _ _⟩ (Kd.R_reads' (far5 HelpI.tI FXR.out (j := 1) R24.out (fun q hq => .inl (O2.out q hq).1))).2 (Kd.S_reads' (far5 HelpII.tII FXR.out (j := 1) S34.out (fun q hq => .inl (O3.out q hq).1))).2
   ·exact absurd ⟨b0, Nat.le_refl _⟩ hnt
  by_cases c7 : u % 10 = 7
  case pos =>
   have HSP := zA (show spoil (b, ls, [], []) (u % 10) v = (b, [], [], []) from by unfold spoil; rw [if_neg c0, if_neg c1, if_neg c2, if_neg c3, if_neg (fun h => absurd h.2 zq14), if_neg (fun h => absurd h.2 zq14), if_neg (fun h => absurd h.2 zq14), if_neg (fun h => absurd h.2 zq14), if_neg c8, if_neg zq14])
   have BXW := zA (show (w4.setCell ⟨gx, 1, none⟩ (.slice none 0 0)).heap[gx]? = some (.cells #[.int .i64 b, .slice none 0 0, .slice B2 0 d2, .slice B3 0 d3] 50 (0, 0)) from blk_put (cs := #[.int .i64 b, .slice B1 ls.length d1, .slice B2 0 d2, .slice B3 0 d3]) BX.out 1 _ rfl)
   have BRW := zA (show (w4.setCell ⟨gx, 1, none⟩ (.slice none 0 0)).heap[gr]? = some (.cells #[.int .i64 0, .slice none 0 0, .slice none 0 0, .slice none 0 0] 50 (0, 0)) from blk_far BR.out (fun e => NXR.out e.symm) _)
   obtain ⟨⟨y0, yf0⟩, ⟨y1, yf1⟩, ⟨y2, yf2⟩, ⟨y3, yf3⟩⟩ := cells4 BXW.out
   obtain ⟨⟨z0, zf0⟩, ⟨z1, zf1⟩, ⟨z2, zf2⟩, ⟨z3, zf3⟩⟩ := cells4 BRW.out
   go_wp2_with fail
   refine bodyPost_ret (results_cell_row rfl _ _ gr 50 #[.int .i64 b, .slice none 0 0, .slice B2 0 d2, .slice B3 0 d3] (0, 0) _ rfl (by (with_reducible repeat (first | refine blk_drewN ?_ _ | refine blk_drew ?_ | refine blk_alloc ?_ _)); refine blk_put (cs := #[.int .i64 b, .slice none 0 0, .slice B2 0 d2, .slice none 0 0]) ?_ 3 _ rfl; (with_reducible repeat (first | refine blk_drewN ?_ _ | refine blk_drew ?_ | refine blk_alloc ?_ _)); refine blk_put (cs := #[.int .i64 b, .slice none 0 0, .slice none 0 0, .slice none 0 0]) ?_ 2 _ rfl; (with_reducible repeat (first | refine blk_drewN ?_ _ | refine blk_drew ?_ | refine blk_alloc ?_ _)); refine blk_put (cs := #[.int .i64 b, .slice none 0 0, .slice none 0 0, .slice none 0 0]) ?_ 1 _ rfl; (with_reducible repeat (first | refine blk_drewN ?_ _ | refine blk_drew ?_ | refine blk_alloc ?_ _)); refine blk_put (cs := #[.int .i64 0, .slice none 0 0, .slice none 0 0, .slice none 0 0]) ?_ 0 _ rfl; (with_reducible repeat (first | refine blk_drewN ?_ _ | refine blk_drew ?_ | refine blk_alloc ?_ _)); exact BRW.out) Try.underlying50 rfl zq12) rfl ?_
   rw [HSP.out]
   refine ⟨none, 0, B2, d2, B3, d3, rfl, fun ht => ?_, fun hnt => ?_, (bel5 GX0.out HB4.out)⟩
   ·exact kMk b ⟨Nat.le_refl _, Kd.C_nil _ _⟩ (Kd.R_reads' (far5 HelpI.tI FXR.out (j := 1) R24.out (fun q hq => .inl (O2.out q hq).1))).2 (Kd.S_reads' (far5 HelpII.tII FXR.out (j := 1) S34.out (fun q hq => .inl (O3.out q hq).1))).2
   ·exact absurd ⟨b0, Nat.le_refl _⟩ hnt
  have c9 : u % 10 = 9 := by omega
  have HSP := zA (show spoil (b, ls, [], []) (u % 10) v = (b, [], [], []) from by unfold spoil; rw [if_neg c0, if_neg c1, if_neg c2, if_neg c3, if_neg (fun h => absurd h.2 zq14), if_neg (fun h => absurd h.2 zq14), if_neg (fun h => absurd h.2 zq14), if_neg (fun h => absurd h.2 zq14), if_neg c8, if_neg zq14])
  have BXW := zA (show (w4.setCell ⟨gx, 1, none⟩ (.slice none 0 0)).heap[gx]? = some (.cells #[.int .i64 b, .slice none 0 0, .slice B2 0 d2, .slice B3 0 d3] 50 (0, 0)) from blk_put (cs := #[.int .i64 b, .slice B1 ls.length d1, .slice B2 0 d2, .slice B3 0 d3]) BX.out 1 _ rfl)
  have BRW := zA (show (w4.setCell ⟨gx, 1, none⟩ (.slice none 0 0)).heap[gr]? = some (.cells #[.int .i64 0, .slice none 0 0, .slice none 0 0, .slice none 0 0] 50 (0, 0)) from blk_far BR.out (fun e => NXR.out e.symm) _)
  obtain ⟨⟨y0, yf0⟩, ⟨y1, yf1⟩, ⟨y2, yf2⟩, ⟨y3, yf3⟩⟩ := cells4 BXW.out
  obtain ⟨⟨z0, zf0⟩, ⟨z1, zf1⟩, ⟨z2, zf2⟩, ⟨z3, zf3⟩⟩ := cells4 BRW.out
  go_wp2_with fail
  refine bodyPost_ret (results_cell_row rfl _ _ gr 50 #[.int .i64 b, .slice none 0 0, .slice B2 0 d2, .slice B3 0 d3] (0, 0) _ rfl (by (with_reducible repeat (first | refine blk_drewN ?_ _ | refine blk_drew ?_ | refine blk_alloc ?_ _)); refine blk_put (cs := #[.int .i64 b, .slice none 0 0, .slice B2 0 d2, .slice none 0 0]) ?_ 3 _ rfl; (with_reducible repeat (first | refine blk_drewN ?_ _ | refine blk_drew ?_ | refine blk_alloc ?_ _)); refine blk_put (cs := #[.int .i64 b, .slice none 0 0, .slice none 0 0, .slice none 0 0]) ?_ 2 _ rfl; (with_reducible repeat (first | refine blk_drewN ?_ _ | refine blk_drew ?_ | refine blk_alloc ?_ _)); refine blk_put (cs := #[.int .i64 b, .slice none 0 0, .slice none 0 0, .slice none 0 0]) ?_ 1 _ rfl; (with_reducible repeat (first | refine blk_drewN ?_ _ | refine blk_drew ?_ | refine blk_alloc ?_ _)); refine blk_put (cs := #[.int .i64 0, .slice none 0 0, .slice none 0 0, .slice none 0 0]) ?_ 0 _ rfl; (with_reducible repeat (first | refine blk_drewN ?_ _ | refine blk_drew ?_ | refine blk_alloc ?_ _)); exact BRW.out) Try.underlying50 rfl zq12) rfl ?_
  rw [HSP.out]
  refine ⟨none, 0, B2, d2, B3, d3, rfl, fun ht => ?_, fun hnt => ?_, (bel5 GX0.out HB4.out)⟩
  ·exact kMk b ⟨Nat.le_refl _, Kd.C_nil _ _⟩ (Kd.R_reads' (far5 HelpI.tI FXR.out (j := 1) R24.out (fun q hq => .inl (O2.out q hq).1))).2 (Kd.S_reads' (far5 HelpII.tII FXR.out (j := 1) S34.out (fun q hq => .inl (O3.out q hq).1))).2
  ·exact absurd ⟨b0, Nat.le_refl _⟩ hnt
 obtain ⟨g2, hA2⟩ := row_blk R24.out hn
 subst hA2
 have hn3 : 0 < Ps.length := by have := HPP.out; omega
 obtain ⟨g3, hA3⟩ := row_blk (Kd.S_R S34.out) hn3
 subst hA3
 have hd2 : K.length ≤ d2 := (Kd.R_reads' R24.out).2.1
 have hd3 : Ps.length ≤ d3 := (Kd.S_reads' S34.out).2.1
 by_cases c4 : u % 10 = 4
 case pos =>
  by_cases hd : d2 = 1
  case pos =>
   subst hd
   have HSP := zA (show spoil (b, ls, K, Ps) (u % 10) v = (b, ls, K.drop 1, Ps) from by unfold spoil; rw [if_neg c0, if_neg c1, if_neg c2, if_neg c3, if_pos ⟨c4, hn⟩])
   have BXW := zA (show (w4.setCell ⟨gx, 2, none⟩ (.slice (some ⟨g2, 0, none⟩) 0 (0))).heap[gx]? = some (.cells #[.int .i64 b, .slice B1 ls.length d1, .slice (some ⟨g2, 0, none⟩) 0 (0), .slice (some ⟨g3, 0, none⟩) Ps.length d3] 50 (0, 0)) from blk_put (cs := #[.int .i64 b, .slice B1 ls.length d1, .slice (some ⟨g2, 0, none⟩) K.length 1, .slice (some ⟨g3, 0, none⟩) Ps.length d3]) BX.out 2 _ rfl)
   have BRW := zA (show (w4.setCell ⟨gx, 2, none⟩ (.slice (some ⟨g2, 0, none⟩) 0 (0))).heap[gr]? = some (.cells #[.int .i64 0, .slice none 0 0, .slice none 0 0, .slice none 0 0] 50 (0, 0)) from blk_far BR.out (fun e => NXR.out e.symm) _)
   obtain ⟨⟨y0, yf0⟩, ⟨y1, yf1⟩, ⟨y2, yf2⟩, ⟨y3, yf3⟩⟩ := cells4 BXW.out
   obtain ⟨⟨z0, zf0⟩, ⟨z1, zf1⟩, ⟨z2, zf2⟩, ⟨z3, zf3⟩⟩ := cells4 BRW.out
   go_wp2_with fail
   refine bodyPost_ret (results_cell_row rfl _ _ gr 50 #[.int .i64 b, .slice B1 ls.length d1, .slice (some ⟨g2, 0, none⟩) 0 (0), .slice (some ⟨g3, 0, none⟩) Ps.length d3] (0, 0) _ rfl (by (with_reducible repeat (first | refine blk_drewN ?_ _ | refine blk_drew ?_ | refine blk_alloc ?_ _)); refine blk_put (cs := #[.int .i64 b, .slice B1 ls.length d1, .slice (some ⟨g2, 0, none⟩) 0 (0), .slice none 0 0]) ?_ 3 _ rfl; (with_reducible repeat (first | refine blk_drewN ?_ _ | refine blk_drew ?_ | refine blk_alloc ?_ _)); refine blk_put (cs := #[.int .i64 b, .slice B1 ls.length d1, .slice none 0 0, .slice none 0 0]) ?_ 2 _ rfl; (with_reducible repeat (first | refine blk_drewN ?_ _ | refine blk_drew ?_ | refine blk_alloc ?_ _)); refine blk_put (cs := #[.int .i64 b, .slice none 0 0, .slice none 0 0, .slice none 0 0]) ?_ 1 _ rfl; (with_reducible repeat (first | refine blk_drewN ?_ _ | refine blk_drew ?_ | refine blk_alloc ?_ _)); refine blk_put (cs := #[.int .i64 0, .slice none 0 0, .slice none 0 0, .slice none 0 0]) ?_ 0 _ rfl; (with_reducible repeat (first | refine blk_drewN ?_ _ | refine blk_drew ?_ | refine blk_alloc ?_ _)); exact BRW.out) Try.underlying50 rfl zq12) rfl ?_
   rw [HSP.out]
   refine ⟨B1, d1, some ⟨g2, 0, none⟩, 0, (some ⟨g3, 0, none⟩), d3, (by rw [List.length_drop, show K.length - 1 = 0 from by omega]), fun ht => ?_, fun hnt => ?_, (bel5 GX0.out HB4.out)⟩
   ·exact kMk b (Kd.S_reads' (far5 HelpBB.tBB FXR.out (j := 2) S14.out (fun q hq => .inl (O1.out q hq).1))).2 (dropB (Kd.R_reads' (far5 HelpI.tI FXR.out (j := 2) R24.out (fun q hq => .inl (O2.out q hq).1))).2 hn) (Kd.S_reads' (far5 HelpII.tII FXR.out (j := 2) S34.out (fun q hq => .inl (O3.out q hq).1))).2
   ·exact absurd ⟨b0, by show (K.drop 1).length ≤ Ps.length; rw [List.length_drop]; have := HPP.out; omega⟩ hnt
  case neg =>
   have HSP := zA (show spoil (b, ls, K, Ps) (u % 10) v = (b, ls, K.drop 1, Ps) from by unfold spoil; rw [if_neg c0, if_neg c1, if_neg c2, if_neg c3, if_pos ⟨c4, hn⟩])
   have BXW := zA (show (w4.setCell ⟨gx, 2, none⟩ (.slice (some ⟨g2, 1, none⟩) (K.length - 1) (d2 - 1))).heap[gx]? = some (.cells #[.int .i64 b, .slice B1 ls.length d1, .slice (some ⟨g2, 1, none⟩) (K.length - 1) (d2 - 1), .slice (some ⟨g3, 0, none⟩) Ps.length d3] 50 (0, 0)) from blk_put (cs := #[.int .i64 b, .slice B1 ls.length d1, .slice (some ⟨g2, 0, none⟩) K.length d2, .slice (some ⟨g3, 0, none⟩) Ps.length d3]) BX.out 2 _ rfl)
   have BRW := zA (show (w4.setCell ⟨gx, 2, none⟩ (.slice (some ⟨g2, 1, none⟩) (K.length - 1) (d2 - 1))).heap[gr]? = some (.cells #[.int .i64 0, .slice none 0 0, .slice none 0 0, .slice none 0 0] 50 (0, 0)) from blk_far BR.out (fun e => NXR.out e.symm) _)
   obtain ⟨⟨y0, yf0⟩, ⟨y1, yf1⟩, ⟨y2, yf2⟩, ⟨y3, yf3⟩⟩ := cells4 BXW.out
   obtain ⟨⟨z0, zf0⟩, ⟨z1, zf1⟩, ⟨z2, zf2⟩, ⟨z3, zf3⟩⟩ := cells4 BRW.out
   go_wp2_with fail
   refine bodyPost_ret (results_cell_row rfl _ _ gr 50 #[.int .i64 b, .slice B1 ls.length d1, .slice (some ⟨g2, 1, none⟩) (K.length - 1) (d2 - 1), .slice (some ⟨g3, 0, none⟩) Ps.length d3] (0, 0) _ rfl (by (with_reducible repeat (first | refine blk_drewN ?_ _ | refine blk_drew ?_ | refine blk_alloc ?_ _)); refine blk_put (cs := #[.int .i64 b, .slice B1 ls.length d1, .slice (some ⟨g2, 1, none⟩) (K.length - 1) (d2 - 1), .slice none 0 0]) ?_ 3 _ rfl; (with_reducible repeat (first | refine blk_drewN ?_ _ | refine blk_drew ?_ | refine blk_alloc ?_ _)); refine blk_put (cs := #[.int .i64 b, .slice B1 ls.length d1, .slice none 0 0, .slice none 0 0]) ?_ 2 _ rfl; (with_reducible repeat (first | refine blk_drewN ?_ _ | refine blk_drew ?_ | refine blk_alloc ?_ _)); refine blk_put (cs := #[.int .i64 b, .slice none 0 0, .slice none 0 0, .slice none 0 0]) ?_ 1 _ rfl; (with_reducible repeat (first | refine blk_drewN ?_ _ | refine blk_drew ?_ | refine blk_alloc ?_ _)); refine blk_put (cs := #[.int .i64 0, .slice none 0 0, .slice none 0 0, .slice none 0 0]) ?_ 0 _ rfl; (with_reducible repeat (first | refine blk_drewN ?_ _ | refine blk_drew ?_ | refine blk_alloc ?_ _)); exact BRW.out) Try.underlying50 rfl zq12) rfl ?_
   rw [HSP.out]
   refine ⟨B1, d1, some ⟨g2, 1, none⟩, d2 - 1, (some ⟨g3, 0, none⟩), d3, (by rw [List.length_drop]), fun ht => ?_, fun hnt => ?_, (bel5 GX0.out HB4.out)⟩
   ·exact kMk b (Kd.S_reads' (far5 HelpBB.tBB FXR.out (j := 2) S14.out (fun q hq => .inl (O1.out q hq).1))).2 (dropA (Kd.R_reads' (far5 HelpI.tI FXR.out (j := 2) R24.out (fun q hq => .inl (O2.out q hq).1))).2 hn hd) (Kd.S_reads' (far5 HelpII.tII FXR.out (j := 2) S34.out (fun q hq => .inl (O3.out q hq).1))).2
   ·exact absurd ⟨b0, by show (K.drop 1).length ≤ Ps.length; rw [List.length_drop]; have := HPP.out; omega⟩ hnt
 have hKn : ¬ K = [] := List.ne_nil_of_length_pos hn
 have hPn : ¬ Ps = [] := List.ne_nil_of_length_pos hn3
 have hnz : ¬ ((K.length : Int) = 0) := by omega
 have htm : Int.tmod v (K.length : Int) = v % (K.length : Int) := Int.tmod_eq_emod_of_nonneg v0
 have hm0 : 0 ≤ v % (K.length : Int) := Int.emod_nonneg _ zq3
 have hm1 : v % (K.length : Int) < (K.length : Int) := Int.emod_lt_of_pos _ zq3
 have hmn : (v % (K.length : Int)).toNat = v.toNat % K.length := modN v K.length v0
 have hjl : v.toNat % K.length < K.length := Nat.mod_lt _ hn
 have HG2 := zA (show g2 < w.heap.size ∧ ¬ o3 g2 ∧ o2 g2 from ⟨(O2.out g2 (R24.out.1 g2 rfl)).1, (O2.out g2 (R24.out.1 g2 rfl)).2.2, R24.out.1 g2 rfl⟩)
 have HG3 := zA (show g3 < w.heap.size ∧ o3 g3 from ⟨(O3.out g3 ((Kd.S_R S34.out).1 g3 rfl)).1, (Kd.S_R S34.out).1 g3 rfl⟩)
 by_cases c5 : u % 10 = 5
 case pos =>
  have HSP := zA (show spoil (b, ls, K, Ps) (u % 10) v = (b, ls, K.set (v.toNat % K.length) v, Ps) from by unfold spoil; rw [if_neg c0, if_neg c1, if_neg c2, if_neg c3, if_neg (fun h => c4 h.1), if_pos ⟨c5, hn⟩])
  obtain ⟨cur2, hb2, hcl0⟩ := row_cur R24.out hn
  have hcl2 : K.length ≤ cur2.size := by have h : K.length * 1 ≤ cur2.size := hcl0; omega
  clear hcl0
  have hce : w4.cell? ⟨g2, (v.toNat % K.length), none⟩ = some (cur2[(v.toNat % K.length)]'zq3) := by rw [blk_cell hb2]; exact Array.getElem?_eq_getElem zq3
  have hfr := blk_frozen hb2 (v.toNat % K.length)
  clear hb2
  have BX5 := zA (show (w4.setCell ⟨g2, (v.toNat % K.length), none⟩ (.int .i64 v)).heap[gx]? = _ from blk_far BX.out (fun e => by have h1 := HG2.out.1; have h2 := GX.out; have e' : gx = g2 := e; omega) _)
  have BRW := zA (show (w4.setCell ⟨g2, (v.toNat % K.length), none⟩ (.int .i64 v)).heap[gr]? = _ from blk_far BR.out (fun e => by have h1 := HG2.out.1; have h2 := GX.out; have e' : gr = g2 := e; omega) _)
  obtain ⟨⟨y0, yf0⟩, ⟨y1, yf1⟩, ⟨y2, yf2⟩, ⟨y3, yf3⟩⟩ := cells4 BX5.out
  obtain ⟨⟨z0, zf0⟩, ⟨z1, zf1⟩, ⟨z2, zf2⟩, ⟨z3, zf3⟩⟩ := cells4 BRW.out
  go_wp2_with fail
  go_region_law (fail)
  all_goals
   go_wp2
   refine bodyPost_ret (results_cell_row rfl _ _ gr 50 #[.int .i64 b, .slice B1 ls.length d1, .slice (some ⟨g2, 0, none⟩) K.length d2, .slice (some ⟨g3, 0, none⟩) Ps.length d3] (0, 0) _ rfl (by (with_reducible repeat (first | refine blk_drewN ?_ _ | refine blk_drew ?_ | refine blk_alloc ?_ _)); refine blk_put (cs := #[.int .i64 b, .slice B1 ls.length d1, .slice (some ⟨g2, 0, none⟩) K.length d2, .slice none 0 0]) ?_ 3 _ rfl; (with_reducible repeat (first | refine blk_drewN ?_ _ | refine blk_drew ?_ | refine blk_alloc ?_ _)); refine blk_put (cs := #[.int .i64 b, .slice B1 ls.length d1, .slice none 0 0, .slice none 0 0]) ?_ 2 _ rfl; (with_reducible repeat (first | refine blk_drewN ?_ _ | refine blk_drew ?_ | refine blk_alloc ?_ _)); refine blk_put (cs := #[.int .i64 b, .slice none 0 0, .slice none 0 0, .slice none 0 0]) ?_ 1 _ rfl; (with_reducible repeat (first | refine blk_drewN ?_ _ | refine blk_drew ?_ | refine blk_alloc ?_ _)); refine blk_put (cs := #[.int .i64 0, .slice none 0 0, .slice none 0 0, .slice none 0 0]) ?_ 0 _ rfl; (with_reducible repeat (first | refine blk_drewN ?_ _ | refine blk_drew ?_ | refine blk_alloc ?_ _)); exact BRW.out) Try.underlying50 rfl zq12) rfl ?_
   rw [HSP.out]
   refine ⟨B1, d1, (some ⟨g2, 0, none⟩), d2, (some ⟨g3, 0, none⟩), d3, (by rw [List.length_set]), fun ht => ?_, fun hnt => ?_, (by first | exact below_drew1 (bel4 GX0.out (below_set HB4.out (Kd.R_base R24.out g2 rfl))) | exact (bel4 GX0.out (below_set HB4.out (Kd.R_base R24.out g2 rfl))))⟩
   ·exact kSeg.K_below (by first | exact below_drew1 (Below.refl _ _) | exact Below.refl _ _) (kMk b (Kd.S_reads' (far4 HelpBB.tBB FXR.out (Ty.M_set (T := HelpBB.tBB) S14.out (g := g2) (j := (v.toNat % K.length)) (fun q hq e => (O1.out q hq).2.2.1 (by have e' : q = g2 := e; rw [e']; exact HG2.out.2.2)) _) (fun q hq => .inl (O1.out q hq).1))).2 (lenEq (Kd.R_reads' (far4 HelpI.tI FXR.out (show Kd.R (Kd.int .i64) 3 (w4.setCell ⟨g2, (v.toNat % K.length), none⟩ (.int .i64 v)) w0.heap.size o2 (.slice (some ⟨g2, 0, none⟩) K.length d2) (K.set (v.toNat % K.length) v) from (Kd.R_put R24.out ((v.toNat % K.length : Nat) : Int) v).1) (fun q hq => .inl (O2.out q hq).1))).2 (by rw [List.length_set])) (Kd.S_reads' (far4 HelpII.tII FXR.out (Ty.M_set (T := HelpII.tII) S34.out (g := g2) (j := (v.toNat % K.length)) (fun q hq e => by have e' : q = g2 := e; rw [e'] at hq; exact HG2.out.2.1 hq) _) (fun q hq => .inl (O3.out q hq).1))).2)
   ·exact absurd ⟨b0, by show (K.set _ _).length ≤ Ps.length; rw [List.length_set]; have := HPP.out; omega⟩ hnt
 have hnzP : ¬ ((Ps.length : Int) = 0) := by omega
 have htmP : Int.tmod v (Ps.length : Int) = v % (Ps.length : Int) := Int.tmod_eq_emod_of_nonneg v0
 have hm0P : 0 ≤ v % (Ps.length : Int) := Int.emod_nonneg _ zq3
 have hm1P : v % (Ps.length : Int) < (Ps.length : Int) := Int.emod_lt_of_pos _ zq3
 have hmnP : (v % (Ps.length : Int)).toNat = v.toNat % Ps.length := modN v Ps.length v0
 have hjlP : v.toNat % Ps.length < Ps.length := Nat.mod_lt _ hn3
 by_cases c6 : u % 10 = 6
 case pos =>
  have HSP := zA (show spoil (b, ls, K, Ps) (u % 10) v = (b, ls, K, Ps.set (v.toNat % Ps.length) [b + v % 3]) from by unfold spoil; rw [if_neg c0, if_neg c1, if_neg c2, if_neg c3, if_neg (fun h => c4 h.1), if_neg (fun h => c5 h.1), if_pos ⟨c6, hn3⟩])
  have ht3 : Int.tmod v 3 = v % 3 := Int.tmod_eq_emod_of_nonneg v0
  have hwr : IntKind.i64.wrap (b + v % 3) = b + v % 3 := by rw [IntKind.wrap_i64]; omega
  obtain ⟨cur3, hb3, hcl0⟩ := row_cur (Kd.S_R S34.out) hn3
  have hcl3 : Ps.length ≤ cur3.size := by have h : Ps.length * 1 ≤ cur3.size := hcl0; omega
  clear hcl0
  replace hb3 := blk_alloc hb3 (.cells #[.int .i64 (b + v % 3)] 3 (0, 0))
  have hce : (w4.alloc (.cells #[.int .i64 (b + v % 3)] 3 (0, 0))).cell? ⟨g3, (v.toNat % Ps.length), none⟩ = some (cur3[(v.toNat % Ps.length)]'zq3) := by rw [blk_cell hb3]; exact Array.getElem?_eq_getElem zq3
  have hfr := blk_frozen hb3 (v.toNat % Ps.length)
  clear hb3
  have BXA := zA (blk_alloc BX.out (.cells #[.int .i64 (b + v % 3)] 3 (0, 0)))
  obtain ⟨⟨t0, tf0⟩, ⟨t1, tf1⟩, ⟨t2, tf2⟩, ⟨t3, tf3⟩⟩ := cells4 BXA.out
  have BX5 := zA (show ((w4.alloc (.cells #[.int .i64 (b + v % 3)] 3 (0, 0))).setCell ⟨g3, (v.toNat % Ps.length), none⟩ (.slice (some ⟨w4.heap.size, 0, none⟩) 1 1)).heap[gx]? = _ from blk_far BXA.out (fun e => by have h1 := HG3.out.1; have h2 := GX.out; have e' : gx = g3 := e; omega) _)
  have BRW := zA (show ((w4.alloc (.cells #[.int .i64 (b + v % 3)] 3 (0, 0))).setCell ⟨g3, (v.toNat % Ps.length), none⟩ (.slice (some ⟨w4.heap.size, 0, none⟩) 1 1)).heap[gr]? = _ from blk_far (blk_alloc BR.out _) (fun e => by have h1 := HG3.out.1; have h2 := GX.out; have e' : gr = g3 := e; omega) _)
  obtain ⟨⟨y0, yf0⟩, ⟨y1, yf1⟩, ⟨y2, yf2⟩, ⟨y3, yf3⟩⟩ := cells4 BX5.out
  obtain ⟨⟨z0, zf0⟩, ⟨z1, zf1⟩, ⟨z2, zf2⟩, ⟨z3, zf3⟩⟩ := cells4 BRW.out
  go_wp2_with fail
  go_region_law (fail)
  all_goals
   go_wp2
   refine bodyPost_ret (results_cell_row rfl _ _ gr 50 #[.int .i64 b, .slice B1 ls.length d1, .slice (some ⟨g2, 0, none⟩) K.length d2, .slice (some ⟨g3, 0, none⟩) Ps.length d3] (0, 0) _ rfl (by (with_reducible repeat (first | refine blk_drewN ?_ _ | refine blk_drew ?_ | refine blk_alloc ?_ _)); refine blk_put (cs := #[.int .i64 b, .slice B1 ls.length d1, .slice (some ⟨g2, 0, none⟩) K.length d2, .slice none 0 0]) ?_ 3 _ rfl; (with_reducible repeat (first | refine blk_drewN ?_ _ | refine blk_drew ?_ | refine blk_alloc ?_ _)); refine blk_put (cs := #[.int .i64 b, .slice B1 ls.length d1, .slice none 0 0, .slice none 0 0]) ?_ 2 _ rfl; (with_reducible repeat (first | refine blk_drewN ?_ _ | refine blk_drew ?_ | refine blk_alloc ?_ _)); refine blk_put (cs := #[.int .i64 b, .slice none 0 0, .slice none 0 0, .slice none 0 0]) ?_ 1 _ rfl; (with_reducible repeat (first | refine blk_drewN ?_ _ | refine blk_drew ?_ | refine blk_alloc ?_ _)); refine blk_put (cs := #[.int .i64 0, .slice none 0 0, .slice none 0 0, .slice none 0 0]) ?_ 0 _ rfl; (with_reducible repeat (first | refine blk_drewN ?_ _ | refine blk_drew ?_ | refine blk_alloc ?_ _)); exact BRW.out) Try.underlying50 rfl zq12) rfl ?_
   rw [HSP.out]
   refine ⟨B1, d1, (some ⟨g2, 0, none⟩), d2, (some ⟨g3, 0, none⟩), d3, (by rw [List.length_set]), fun ht => ?_, fun hnt => ?_, (by first | exact below_drew1 (bel4 GX0.out (below_set (below_alloc HB4.out _) (Kd.R_base (Kd.S_R S34.out) g3 rfl))) | exact (bel4 GX0.out (below_set (below_alloc HB4.out _) (Kd.R_base (Kd.S_R S34.out) g3 rfl))))⟩
   ·exact kSeg.K_below (by first | exact below_drew1 (Below.refl _ _) | exact Below.refl _ _) (kMk b (Kd.S_reads' (far4 HelpBB.tBB FXR.out (Ty.M_set (T := HelpBB.tBB) (Kd.S_below S14.out (below_alloc (Below.refl _ _) _)) (g := g3) (j := (v.toNat % Ps.length)) (fun q hq e => (O1.out q hq).2.2.2 (by have e' : q = g3 := e; rw [e']; exact HG3.out.2)) (.slice (some ⟨w4.heap.size, 0, none⟩) 1 1)) (fun q hq => .inl (O1.out q hq).1))).2 (Kd.R_reads' (far4 HelpI.tI FXR.out (Ty.M_set (T := HelpI.tI) (Kd.R_below R24.out (below_alloc (Below.refl _ _) _)) (g := g3) (j := (v.toNat % Ps.length)) (fun q hq e => (O2.out q hq).2.2 (by have e' : q = g3 := e; rw [e']; exact HG3.out.2)) (.slice (some ⟨w4.heap.size, 0, none⟩) 1 1)) (fun q hq => .inl (O2.out q hq).1))).2 (lenEq (Kd.R_reads' (Kd.R_far (Kd.R_far (Kd.R_far (Kd.R_far (put_row (Kd.R_mono (Kd.R_below (Kd.S_R S34.out) (below_alloc (Below.refl _ _) _)) (fun q hq => (.inl hq : o3 q ∨ w4.heap.size ≤ q))) (v.toNat % Ps.length) hjlP [b + v % 3] (.slice (some ⟨w4.heap.size, 0, none⟩) 1 1) (Kd.M_row (one_new w4 (b + v % 3) w0.heap.size HB4.out.size)) (fun q hq => ⟨.inr hq, fun e => by have h1 := HG3.out.1; have h2 := GL.out; have h3 : w4.heap.size ≤ q := hq; omega⟩)) (p := ⟨gr, 0, none⟩) (fun q hq => by show q ≠ gr; have h1 := GX.out; have h2 := GL.out; have h3 : q < w.heap.size ∨ w4.heap.size ≤ q := hq.elim (fun h => .inl (O3.out q h).1) .inr; omega) _) (p := ⟨gr, 1, none⟩) (fun q hq => by show q ≠ gr; have h1 := GX.out; have h2 := GL.out; have h3 : q < w.heap.size ∨ w4.heap.size ≤ q := hq.elim (fun h => .inl (O3.out q h).1) .inr; omega) _) (p := ⟨gr, 2, none⟩) (fun q hq => by show q ≠ gr; have h1 := GX.out; have h2 := GL.out; have h3 : q < w.heap.size ∨ w4.heap.size ≤ q := hq.elim (fun h => .inl (O3.out q h).1) .inr; omega) _) (p := ⟨gr, 3, none⟩) (fun q hq => by show q ≠ gr; have h1 := GX.out; have h2 := GL.out; have h3 : q < w.heap.size ∨ w4.heap.size ≤ q := hq.elim (fun h => .inl (O3.out q h).1) .inr; omega) _)).2 (by rw [List.length_set])))
   ·exact absurd ⟨b0, by show K.length ≤ (Ps.set _ _).length; rw [List.length_set]; have := HPP.out; omega⟩ hnt
 by_cases c7 : u % 10 = 7
 case pos =>
  by_cases hd : d3 = 1
  case pos =>
   subst hd
   have HSP := zA (show spoil (b, ls, K, Ps) (u % 10) v = (b, ls, K, Ps.drop 1) from by unfold spoil; rw [if_neg c0, if_neg c1, if_neg c2, if_neg c3, if_neg (fun h => c4 h.1), if_neg (fun h => c5 h.1), if_neg (fun h => c6 h.1), if_pos ⟨c7, hn3⟩])
   have BXW := zA (show (w4.setCell ⟨gx, 3, none⟩ (.slice (some ⟨g3, 0, none⟩) 0 (0))).heap[gx]? = some (.cells #[.int .i64 b, .slice B1 ls.length d1, .slice (some ⟨g2, 0, none⟩) K.length d2, .slice (some ⟨g3, 0, none⟩) 0 (0)] 50 (0, 0)) from blk_put (cs := #[.int .i64 b, .slice B1 ls.length d1, .slice (some ⟨g2, 0, none⟩) K.length d2, .slice (some ⟨g3, 0, none⟩) Ps.length 1]) BX.out 3 _ rfl)
   have BRW := zA (show (w4.setCell ⟨gx, 3, none⟩ (.slice (some ⟨g3, 0, none⟩) 0 (0))).heap[gr]? = some (.cells #[.int .i64 0, .slice none 0 0, .slice none 0 0, .slice none 0 0] 50 (0, 0)) from blk_far BR.out (fun e => NXR.out e.symm) _)
   obtain ⟨⟨y0, yf0⟩, ⟨y1, yf1⟩, ⟨y2, yf2⟩, ⟨y3, yf3⟩⟩ := cells4 BXW.out
   obtain ⟨⟨z0, zf0⟩, ⟨z1, zf1⟩, ⟨z2, zf2⟩, ⟨z3, zf3⟩⟩ := cells4 BRW.out
   go_wp2_with fail
   refine bodyPost_ret (results_cell_row rfl _ _ gr 50 #[.int .i64 b, .slice B1 ls.length d1, .slice (some ⟨g2, 0, none⟩) K.length d2, .slice (some ⟨g3, 0, none⟩) 0 (0)] (0, 0) _ rfl (by (with_reducible repeat (first | refine blk_drewN ?_ _ | refine blk_drew ?_ | refine blk_alloc ?_ _)); refine blk_put (cs := #[.int .i64 b, .slice B1 ls.length d1, .slice (some ⟨g2, 0, none⟩) K.length d2, .slice none 0 0]) ?_ 3 _ rfl; (with_reducible repeat (first | refine blk_drewN ?_ _ | refine blk_drew ?_ | refine blk_alloc ?_ _)); refine blk_put (cs := #[.int .i64 b, .slice B1 ls.length d1, .slice none 0 0, .slice none 0 0]) ?_ 2 _ rfl; (with_reducible repeat (first | refine blk_drewN ?_ _ | refine blk_drew ?_ | refine blk_alloc ?_ _)); refine blk_put (cs := #[.int .i64 b, .slice none 0 0, .slice none 0 0, .slice none 0 0]) ?_ 1 _ rfl; (with_reducible repeat (first | refine blk_drewN ?_ _ | refine blk_drew ?_ | refine blk_alloc ?_ _)); refine blk_put (cs := #[.int .i64 0, .slice none 0 0, .slice none 0 0, .slice none 0 0]) ?_ 0 _ rfl; (with_reducible repeat (first | refine blk_drewN ?_ _ | refine blk_drew ?_ | refine blk_alloc ?_ _)); exact BRW.out) Try.underlying50 rfl zq12) rfl ?_
   rw [HSP.out]
   refine ⟨B1, d1, (some ⟨g2, 0, none⟩), d2, some ⟨g3, 0, none⟩, 0, (by rw [List.length_drop, show Ps.length - 1 = 0 from by omega]), fun ht => ?_, fun hnt => ?_, (bel5 GX0.out HB4.out)⟩
   ·have h : K.length ≤ (Ps.drop 1).length := ht.2; rw [List.length_drop] at h; have := HPP.out; omega
   ·exact ⟨kMk b (Kd.S_reads' (far5 HelpBB.tBB FXR.out (j := 3) S14.out (fun q hq => .inl (O1.out q hq).1))).2 (Kd.R_reads' (far5 HelpI.tI FXR.out (j := 3) R24.out (fun q hq => .inl (O2.out q hq).1))).2 (Kd.S_reads' (far5 HelpII.tII FXR.out (j := 3) S34.out (fun q hq => .inl (O3.out q hq).1))).2, (kept5 GX.out (j := 3) HKW.out)⟩
  case neg =>
   have HSP := zA (show spoil (b, ls, K, Ps) (u % 10) v = (b, ls, K, Ps.drop 1) from by unfold spoil; rw [if_neg c0, if_neg c1, if_neg c2, if_neg c3, if_neg (fun h => c4 h.1), if_neg (fun h => c5 h.1), if_neg (fun h => c6 h.1), if_pos ⟨c7, hn3⟩])
   have BXW := zA (show (w4.setCell ⟨gx, 3, none⟩ (.slice (some ⟨g3, 1, none⟩) (Ps.length - 1) (d3 - 1))).heap[gx]? = some (.cells #[.int .i64 b, .slice B1 ls.length d1, .slice (some ⟨g2, 0, none⟩) K.length d2, .slice (some ⟨g3, 1, none⟩) (Ps.length - 1) (d3 - 1)] 50 (0, 0)) from blk_put (cs := #[.int .i64 b, .slice B1 ls.length d1, .slice (some ⟨g2, 0, none⟩) K.length d2, .slice (some ⟨g3, 0, none⟩) Ps.length d3]) BX.out 3 _ rfl)
   have BRW := zA (show (w4.setCell ⟨gx, 3, none⟩ (.slice (some ⟨g3, 1, none⟩) (Ps.length - 1) (d3 - 1))).heap[gr]? = some (.cells #[.int .i64 0, .slice none 0 0, .slice none 0 0, .slice none 0 0] 50 (0, 0)) from blk_far BR.out (fun e => NXR.out e.symm) _)
   obtain ⟨⟨y0, yf0⟩, ⟨y1, yf1⟩, ⟨y2, yf2⟩, ⟨y3, yf3⟩⟩ := cells4 BXW.out
   obtain ⟨⟨z0, zf0⟩, ⟨z1, zf1⟩, ⟨z2, zf2⟩, ⟨z3, zf3⟩⟩ := cells4 BRW.out
   go_wp2_with fail
   refine bodyPost_ret (results_cell_row rfl _ _ gr 50 #[.int .i64 b, .slice B1 ls.length d1, .slice (some ⟨g2, 0, none⟩) K.length d2, .slice (some ⟨g3, 1, none⟩) (Ps.length - 1) (d3 - 1)] (0, 0) _ rfl (by (with_reducible repeat (first | refine blk_drewN ?_ _ | refine blk_drew ?_ | refine blk_alloc ?_ _)); refine blk_put (cs := #[.int .i64 b, .slice B1 ls.length d1, .slice (some ⟨g2, 0, none⟩) K.length d2, .slice none 0 0]) ?_ 3 _ rfl; (with_reducible repeat (first | refine blk_drewN ?_ _ | refine blk_drew ?_ | refine blk_alloc ?_ _)); refine blk_put (cs := #[.int .i64 b, .slice B1 ls.length d1, .slice none 0 0, .slice none 0 0]) ?_ 2 _ rfl; (with_reducible repeat (first | refine blk_drewN ?_ _ | refine blk_drew ?_ | refine blk_alloc ?_ _)); refine blk_put (cs := #[.int .i64 b, .slice none 0 0, .slice none 0 0, .slice none 0 0]) ?_ 1 _ rfl; (with_reducible repeat (first | refine blk_drewN ?_ _ | refine blk_drew ?_ | refine blk_alloc ?_ _)); refine blk_put (cs := #[.int .i64 0, .slice none 0 0, .slice none 0 0, .slice none 0 0]) ?_ 0 _ rfl; (with_reducible repeat (first | refine blk_drewN ?_ _ | refine blk_drew ?_ | refine blk_alloc ?_ _)); exact BRW.out) Try.underlying50 rfl zq12) rfl ?_
   rw [HSP.out]
   refine ⟨B1, d1, (some ⟨g2, 0, none⟩), d2, some ⟨g3, 1, none⟩, d3 - 1, (by rw [List.length_drop]), fun ht => ?_, fun hnt => ?_, (bel5 GX0.out HB4.out)⟩
   ·have h : K.length ≤ (Ps.drop 1).length := ht.2; rw [List.length_drop] at h; have := HPP.out; omega
   ·exact ⟨kMk b (Kd.S_reads' (far5 HelpBB.tBB FXR.out (j := 3) S14.out (fun q hq => .inl (O1.out q hq).1))).2 (Kd.R_reads' (far5 HelpI.tI FXR.out (j := 3) R24.out (fun q hq => .inl (O2.out q hq).1))).2 (Kd.S_reads' (far5 HelpII.tII FXR.out (j := 3) S34.out (fun q hq => .inl (O3.out q hq).1))).2, (kept5 GX.out (j := 3) HKW.out)⟩
 have c9 : u % 10 = 9 := by omega
 obtain ⟨oki, c_, hcl_, hM_, hcell_, hoki_, hH_⟩ := Kd.S_lend (Kd.S_mono S34.out (fun q h => (.inl h : o3 q ∨ w4.heap.size ≤ q))) [] ((v.toNat % Ps.length : Nat) : Int) zq3 zq3
 obtain ⟨vE, rfl, hRE_⟩ := hM_
 obtain ⟨AE, cE, rfl⟩ := Kd.R_slice hRE_
 have hEl : (Ps.getD (v.toNat % Ps.length) []).length ≤ 1000 := HPL.out _ (by rw [List.getD, List.getElem?_eq_getElem hjlP]; exact List.getElem_mem hjlP)
 have hge0 : w4.cell? ⟨g3, (v.toNat % Ps.length), none⟩ = some (.slice AE (Ps.getD (v.toNat % Ps.length) []).length cE) := by have h := hcell_ 0 _ rfl; rw [show ((v.toNat % Ps.length : Nat) : Int).toNat * HelpII.kI.sz + 0 = v.toNat % Ps.length from by show v.toNat % Ps.length * 1 + 0 = _; omega] at h; exact h
 have HSP0 := zA (show spoil (b, ls, K, Ps) (u % 10) v = (b, ls, K, Ps.set (v.toNat % Ps.length) (Ps.getD (v.toNat % Ps.length) [] ++ [b])) from by unfold spoil; rw [if_neg c0, if_neg c1, if_neg c2, if_neg c3, if_neg (fun h => c4 h.1), if_neg (fun h => c5 h.1), if_neg (fun h => c6 h.1), if_neg (fun h => c7 h.1), if_neg c8, if_pos hn3])
 have HRE_ := zA hRE_
 have HH_ := zA (Kd.H_widen hH_)
 have HOI := zA hoki_
 clear hRE_ hH_ hoki_ hcl_ hcell_
 have hgetn : Ps.getD ((v.toNat % Ps.length : Nat) : Int).toNat [] = Ps.getD (v.toNat % Ps.length) [] := rfl
 generalize hEE : Ps.getD (v.toNat % Ps.length) [] = E at hEl hge0 HSP0
 have HRE := zA (show Kd.R (Kd.int .i64) 3 w4 w0.heap.size oki (.slice AE E.length cE) E from by have h := HRE_.out; rw [hgetn, hEE] at h; exact h)
 have hge1 : w4.cell? ⟨g3, (v.toNat % Ps.length), none⟩ = some (.slice AE E.length cE) := hge0
 clear hge0 hgetn HRE_ hEE
 obtain ⟨cur3, hb3, hcl0⟩ := row_cur (Kd.S_R S34.out) hn3
 have hcur : (v.toNat % Ps.length) < cur3.size := by have h : Ps.length * 1 ≤ cur3.size := hcl0; omega
 have BG3 := zA hb3
 have hge2 : (w4.alloc (.cells #[.int .i64 b] 3 (0, 0))).cell? ⟨g3, (v.toNat % Ps.length), none⟩ = some (.slice AE E.length cE) := ((below_alloc (Below.refl _ _) _).cell (World.block_lt_of_cell? w4 _ hge1)).trans hge1
 clear hcl0 hb3
 have HOE := zA (show ∀ q, (.slice AE E.length cE : Value).ownBlock = some q → (o3 q ∨ w4.heap.size ≤ q) ∧ q ≠ gx ∧ q ≠ gr ∧ q ≠ g3 ∧ q < w.heap.size ∧ oki q from fun q h => by
   have h1 := HOI.out q (HRE.out.1 q h)
   have h2 : q < w4.heap.size := Kd.R_lt HRE.out q h
   have h3 : o3 q := h1.1.elim id (fun h => absurd h zq3)
   have h4 := (O3.out q h3).1
   have h5 := GX.out
   exact ⟨h1.1, zq3, zq3, h1.2, h4, HRE.out.1 q h⟩)
 obtain ⟨⟨t0, tf0⟩, ⟨t1, tf1⟩, ⟨t2, tf2⟩, ⟨t3, tf3⟩⟩ := cells4 (blk_alloc BX.out (.cells #[.int .i64 b] 3 (0, 0)))
 go_upto_region 23 with fail
 go_cut [] (fun wx => Aside0 (wx.heap[gx]? = some (.cells #[.int .i64 b, .slice B1 ls.length d1, .slice (some ⟨g2, 0, none⟩) K.length d2, .slice (some ⟨g3, 0, none⟩) Ps.length d3] 50 (0, 0))) ∧ Aside0 (wx.heap[gr]? = some (.cells #[.int .i64 0, .slice none 0 0, .slice none 0 0, .slice none 0 0] 50 (0, 0))) ∧ Aside0 (Kd.S kB 33 wx w0.heap.size o1 (.slice B1 ls.length d1) ls) ∧ Aside0 (Kd.R (Kd.int .i64) 3 wx w0.heap.size o2 (.slice (some ⟨g2, 0, none⟩) K.length d2) K) ∧ Aside0 (Kd.S HelpII.kI 22 wx w0.heap.size (fun q => o3 q ∨ w4.heap.size ≤ q) (.slice (some ⟨g3, 0, none⟩) Ps.length d3) (Ps.set (v.toNat % Ps.length) (E ++ [b]))) ∧ Aside0 (Below w0.heap.size w0 wx))
 case first =>
  go_region_law ((try rw [← World.alloc_drew]); refine Kd.R_append_step (Kd.int .i64) (w0 := w0) w0.heap.size (by first | rfl | simp [Region.wanted]) (.tmp 127) (.tmp 130) 22 3 (.int .i64 0) 8 (by rfl) Try.underlying22 infoI rfl zq13 zq3 (.slice AE E.length cE) E b [.int .i64 b] (fun q => oki q ∨ w4.heap.size ≤ q) (fun _ => False) zq33 zq33 rfl (fun _ h => h.elim) ?aF ?aO ?aB ?aS ?aL ?_; (case aF => exact fun q hq => .inr (Nat.le_trans (below_size zq7) hq)); (case aO => exact Kd.R_mono (Kd.R_below HRE.out zq7) (fun q hq => .inl hq)); (case aB => exact grew_trans HB4.out zq7); (case aS => exact (grew_trans HB4.out zq7).size); (case aL => omega); intro v6 w6 hO6 hB6 hg6 hat6; obtain ⟨A6, c6, e6⟩ := Kd.R_slice hO6; rw [show (E ++ [b]).length = E.length + 1 from by rw [List.length_append, List.length_singleton]] at e6; subst e6; have HO6 := zA hO6; have HB6 := zA hB6; have HKP := zA (show Kept w4 w6 (fun q => some q = (.slice AE E.length cE : Value).ownBlock) from ⟨Nat.le_trans (below_size zq7) hg6.size, fun q hq hne => (hg6.block q (Nat.lt_of_lt_of_le hq (below_size zq7)) hne).trans ((show Below w4.heap.size w4 _ from zq7).block q hq)⟩); have BX6 := zA (blk_kept BX.out HKP.out (fun e => HOE.out gx e.symm |>.2.1 rfl)); have BR6 := zA (blk_kept BR.out HKP.out (fun e => HOE.out gr e.symm |>.2.2.1 rfl)); have BG6 := zA (blk_kept BG3.out HKP.out (fun e => HOE.out g3 e.symm |>.2.2.2.1 rfl)); obtain ⟨⟨s0, sf0⟩, ⟨s1, sf1⟩, ⟨s2, sf2⟩, ⟨s3, sf3⟩⟩ := cells4 BX6.out; have hce6 : w6.cell? ⟨g3, (v.toNat % Ps.length), none⟩ = some (cur3[(v.toNat % Ps.length)]'hcur) := (blk_cell BG6.out (v.toNat % Ps.length)).trans (Array.getElem?_eq_getElem hcur); have hfr6 := blk_frozen BG6.out (v.toNat % Ps.length); have BX5 := zA (show (w6.setCell ⟨g3, (v.toNat % Ps.length), none⟩ (.slice A6 (E.length + 1) c6)).heap[gx]? = _ from blk_far BX6.out (fun e => by have h1 := HG3.out.1; have h2 := GX.out; have e' : gx = g3 := e; omega) _); have BRW := zA (show (w6.setCell ⟨g3, (v.toNat % Ps.length), none⟩ (.slice A6 (E.length + 1) c6)).heap[gr]? = _ from blk_far BR6.out (fun e => by have h1 := HG3.out.1; have h2 := GX.out; have e' : gr = g3 := e; omega) _); obtain ⟨⟨y0, yf0⟩, ⟨y1, yf1⟩, ⟨y2, yf2⟩, ⟨y3, yf3⟩⟩ := cells4 BX5.out; obtain ⟨⟨z0, zf0⟩, ⟨z1, zf1⟩, ⟨z2, zf2⟩, ⟨z3, zf3⟩⟩ := cells4 BRW.out; clear hO6 hB6 hg6 hat6)
  all_goals
   have SN := zA (show Kd.S HelpII.kI 22 (w6.setCell ⟨g3, (v.toNat % Ps.length), none⟩ (.slice A6 (E.length + 1) c6)) w0.heap.size (fun q => o3 q ∨ w4.heap.size ≤ q) (.slice (some ⟨g3, 0, none⟩) Ps.length d3) (Ps.set (v.toNat % Ps.length) (E ++ [b])) from by
    have h1 := (Kd.H_seg (Kd.H_step HH_.out (fun k hk hn hlt => HKP.out.2 k hlt (fun e => hn (.inl (HOE.out k e.symm).2.2.2.2.2)))) zq3 zq3 (j := 0) (seg := [.slice A6 (E.length + 1) c6]) (by show 0 + 1 ≤ 1; omega) zq56).1
    rw [show ((v.toNat % Ps.length : Nat) : Int).toNat * HelpII.kI.sz + 0 = v.toNat % Ps.length from by show v.toNat % Ps.length * 1 + 0 = _; omega] at h1
    exact Kd.H_back h1 (Kd.M_row (Kd.R_far HO6.out (p := ⟨g3, v.toNat % Ps.length, none⟩) (fun q hq => hq.elim (fun h => (HOI.out q h).2) (fun h => by show q ≠ g3; have h1 := HG3.out.1; have h2 := GL.out; omega)) (.slice A6 (E.length + 1) c6))) (fun q hq => hq.elim .inl (fun h => .inr ⟨.inr h, h⟩)))
   have LS9 := zA (show Kd.S kB 33 (w6.setCell ⟨g3, (v.toNat % Ps.length), none⟩ (.slice A6 (E.length + 1) c6)) w0.heap.size o1 (.slice B1 ls.length d1) ls from Ty.M_set (T := HelpBB.tBB) (Kd.S_kept S14.out HKP.out (fun q hq e => (O1.out q hq).2.2.2 ((HOE.out q e.symm).1.elim id (fun h => absurd h (by have h1 := (O1.out q hq).1; have h2 := GL.out; omega))))) (g := g3) (j := (v.toNat % Ps.length)) (fun q hq e => (O1.out q hq).2.2.2 (by have e' : q = g3 := e; rw [e']; exact HG3.out.2)) (.slice A6 (E.length + 1) c6))
   have LK9 := zA (show Kd.R (Kd.int .i64) 3 (w6.setCell ⟨g3, (v.toNat % Ps.length), none⟩ (.slice A6 (E.length + 1) c6)) w0.heap.size o2 (.slice (some ⟨g2, 0, none⟩) K.length d2) K from Ty.M_set (T := HelpI.tI) (Kd.R_kept R24.out HKP.out (fun q hq e => (O2.out q hq).2.2 ((HOE.out q e.symm).1.elim id (fun h => absurd h (by have h1 := (O2.out q hq).1; have h2 := GL.out; omega))))) (g := g3) (j := (v.toNat % Ps.length)) (fun q hq e => (O2.out q hq).2.2 (by have e' : q = g3 := e; rw [e']; exact HG3.out.2)) (.slice A6 (E.length + 1) c6))
   refine gen_world _ _ ?_
   intro wz hW_
   have F0 := zA (show wz.heap[gx]? = some (.cells #[.int .i64 b, .slice B1 ls.length d1, .slice (some ⟨g2, 0, none⟩) K.length d2, .slice (some ⟨g3, 0, none⟩) Ps.length d3] 50 (0, 0)) from by rw [hW_]; (with_reducible repeat (first | refine blk_drewN ?_ _ | refine blk_drew ?_)); exact blk_far BX6.out (fun e => by have h1 := HG3.out.1; have h2 := GX.out; have e' : gx = g3 := e; omega) _)
   have F1 := zA (show wz.heap[gr]? = some (.cells #[.int .i64 0, .slice none 0 0, .slice none 0 0, .slice none 0 0] 50 (0, 0)) from by rw [hW_]; (with_reducible repeat (first | refine blk_drewN ?_ _ | refine blk_drew ?_)); exact blk_far BR6.out (fun e => by have h1 := HG3.out.1; have h2 := GX.out; have e' : gr = g3 := e; omega) _)
   have F2 := zA (show Kd.S kB 33 wz w0.heap.size o1 (.slice B1 ls.length d1) ls from by rw [hW_]; (with_reducible try refine Kd.S_drew ?_); exact LS9.out)
   have F3 := zA (show Kd.R (Kd.int .i64) 3 wz w0.heap.size o2 (.slice (some ⟨g2, 0, none⟩) K.length d2) K from by rw [hW_]; (with_reducible try refine Kd.R_drew ?_); exact LK9.out)
   have F4 := zA (show Kd.S HelpII.kI 22 wz w0.heap.size (fun q => o3 q ∨ w4.heap.size ≤ q) (.slice (some ⟨g3, 0, none⟩) Ps.length d3) (Ps.set (v.toNat % Ps.length) (E ++ [b])) from by rw [hW_]; (with_reducible try refine Kd.S_drew ?_); exact SN.out)
   have F5 := zA (show Below w0.heap.size w0 wz from by rw [hW_]; (with_reducible try refine below_drew1 ?_); exact below_set HB6.out (Kd.R_base (Kd.S_R S34.out) g3 rfl))
   clear hW_
   go_wp2_with fail
   go_meet
   exact ⟨F0, F1, F2, F3, F4, F5⟩
 case rest =>
  obtain ⟨BXn, BRn, S1n, R2n, S3n, HBn⟩ := hcut
  rename World => w7
  obtain ⟨⟨r0, rf0⟩, ⟨r1, rf1⟩, ⟨r2, rf2⟩, ⟨r3, rf3⟩⟩ := cells4 BXn.out
  obtain ⟨⟨n0, nf0⟩, ⟨n1, nf1⟩, ⟨n2, nf2⟩, ⟨n3, nf3⟩⟩ := cells4 BRn.out
  go_wp2_with fail
  refine bodyPost_ret (results_cell_row rfl _ _ gr 50 #[.int .i64 b, .slice B1 ls.length d1, .slice (some ⟨g2, 0, none⟩) K.length d2, .slice (some ⟨g3, 0, none⟩) Ps.length d3] (0, 0) _ rfl (by (with_reducible repeat (first | refine blk_drewN ?_ _ | refine blk_drew ?_ | refine blk_alloc ?_ _)); refine blk_put (cs := #[.int .i64 b, .slice B1 ls.length d1, .slice (some ⟨g2, 0, none⟩) K.length d2, .slice none 0 0]) ?_ 3 _ rfl; (with_reducible repeat (first | refine blk_drewN ?_ _ | refine blk_drew ?_ | refine blk_alloc ?_ _)); refine blk_put (cs := #[.int .i64 b, .slice B1 ls.length d1, .slice none 0 0, .slice none 0 0]) ?_ 2 _ rfl; (with_reducible repeat (first | refine blk_drewN ?_ _ | refine blk_drew ?_ | refine blk_alloc ?_ _)); refine blk_put (cs := #[.int .i64 b, .slice none 0 0, .slice none 0 0, .slice none 0 0]) ?_ 1 _ rfl; (with_reducible repeat (first | refine blk_drewN ?_ _ | refine blk_drew ?_ | refine blk_alloc ?_ _)); refine blk_put (cs := #[.int .i64 0, .slice none 0 0, .slice none 0 0, .slice none 0 0]) ?_ 0 _ rfl; (with_reducible repeat (first | refine blk_drewN ?_ _ | refine blk_drew ?_ | refine blk_alloc ?_ _)); exact BRn.out) Try.underlying50 rfl zq12) rfl ?_
  rw [HSP0.out]
  refine ⟨B1, d1, (some ⟨g2, 0, none⟩), d2, (some ⟨g3, 0, none⟩), d3, (by rw [List.length_set]), fun ht => ?_, fun hnt => ?_, bel4 GX0.out HBn.out⟩
  ·exact kMk b (Kd.S_reads' (far4 HelpBB.tBB FXR.out S1n.out (fun q hq => .inl (O1.out q hq).1))).2 (Kd.R_reads' (far4 HelpI.tI FXR.out R2n.out (fun q hq => .inl (O2.out q hq).1))).2 (lenEq (Kd.S_reads' (far4 HelpII.tII FXR.out S3n.out (fun q hq => (hq.elim (fun h => .inl (O3.out q h).1) (fun h => .inr h) : q < w.heap.size ∨ w4.heap.size ≤ q)))).2 (by rw [List.length_set]))
  ·exact absurd ⟨b0, by show K.length ≤ (Ps.set _ _).length; rw [List.length_set]; have := HPP.out; omega⟩ hnt
end Go.Proofs.Ytmgmdnmfalepkaa.Draw
