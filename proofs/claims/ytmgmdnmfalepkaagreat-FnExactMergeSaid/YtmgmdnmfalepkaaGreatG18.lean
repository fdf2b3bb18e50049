/- Parts of the proof (see the row's own text): PMer, PMerB, Bld, DecH. -/
import Derived.Test.YtmgmdnmfalepkaaGreatG00
import Derived.Test.YtmgmdnmfalepkaaGreatG13
import Derived.Test.YtmgmdnmfalepkaaGreatG16
import Derived.Test.YtmgmdnmfalepkaaGreatG17
import Derived.Test.YtmgmdnmfalepkaaGreatG9
import Derived.Test.YtmgmdnmfalepkaaGreatG11
import Derived.Test.YtmgmdnmfalepkaaGreatG5
import Derived.Test.YtmgmdnmfalepkaaGreatG7
import Derived.Test.YtmgmdnmfalepkaaGreatG8
import Derived.Test.YtmgmdnmfalepkaaGreatG6
import Derived.Test.YtmgmdnmfalepkaaGreatG10
namespace Go.Proofs.YtmgmdnmfalepkaaGreat.Mer
open Go.RowKit Go.Proofs.YtmgmdnmfalepkaaGreatW.PrintWords Go.Proofs.YtmgmdnmfalepkaaGreatW.PrintMore Go.Proofs.YtmgmdnmfalepkaaGreat.Kit Go.Proofs.YtmgmdnmfalepkaaGreat.PKit Go.Proofs.YtmgmdnmfalepkaaGreat.Ty Go.Proofs.YtmgmdnmfalepkaaGreat.PTri Go.Proofs.YtmgmdnmfalepkaaGreat.PSeg Go.Proofs.YtmgmdnmfalepkaaGreat.PEnc Go.Proofs.YtmgmdnmfalepkaaGreat.PDec Go.Proofs.YtmgmdnmfalepkaaGreat.PSta Go.Proofs.YtmgmdnmfalepkaaGreat.HelpBB Go.Proofs.YtmgmdnmfalepkaaGreat.HelpSeg Go.Proofs.YtmgmdnmfalepkaaGreat.Sto Go.Proofs.YtmgmdnmfalepkaaGreat.Rep
set_option linter.unusedVariables false
set_option linter.unusedSimpArgs false
theorem gen_world (P : World → Prop) (w : World) (h : ∀ W, W = w → P W) : P w := h w rfl
def jn (ss : List SegT) (k : Nat) : SegT := seg (ss.getD k zS).1 ((ss.getD k zS).2.1 ++ (ss.getD (k + 1) zS).2.1)
def mrgF (op : List (List Int)) (k : Int) : StepT := fun ss => if 0 ≤ k ∧ k + 1 < (ss.length : Int) then ((repl ss k.toNat (jn ss k.toNat), op), 0) else ((ss, op), 7)
theorem chain_base {base : Int} {ss : List SegT} {bs : List (List Int)} (h : Chain base ss bs) : ∀ i, i < ss.length → (ss.getD i zS).1 = base + ((nlin (ss.take i) : Nat) : Int) := by
 induction h with
 | nil base => intro i hi; cases hi
 | @cons base s b ss bs h t ih =>
  intro i hi
  cases i with
  | zero =>
   show s.1 = base + ((nlin ([] : List SegT) : Nat) : Int)
   rw [h.1]; simp [nlin]
  | succ i =>
   have h1 := ih i (by simpa using hi)
   show (ss.getD i zS).1 = base + ((nlin (s :: ss.take i) : Nat) : Int)
   rw [h1]; simp only [nlin]; omega
theorem getD_mem' (ss : List SegT) (i : Nat) (h : i < ss.length) : ss.getD i zS ∈ ss := by
 rw [List.getD, List.getElem?_eq_getElem h]; exact List.getElem_mem h
theorem nb {ss : List SegT} {bs : List (List Int)} (h : Chain 0 ss bs) (ht : tots ss ≤ 20000) (k : Nat) (hk : k + 2 ≤ ss.length) : Mrg.mrgOk (ss.getD k zS) (ss.getD (k + 1) zS) = true ∧ fits (ss.getD k zS).1 ((ss.getD k zS).2.1 ++ (ss.getD (k + 1) zS).2.1) = true ∧ totalB (ss.getD k zS).2.1 + totalB (ss.getD (k + 1) zS).2.1 ≤ 20000 ∧ (ss.getD k zS).2.1.length + (ss.getD (k + 1) zS).2.1.length ≤ 1000 := by
 have e1 := seg_snoc ss k zq1
 have e2 := seg_snoc ss (k + 1) zq1
 have b1 := chain_base h k zq1
 have b2 := chain_base h (k + 1) zq1
 have t2 := tots_take ss (k + 1 + 1)
 have n2 := nlin_take ss (k + 1 + 1)
 obtain ⟨m1, _, _⟩ := chain_len0 h
 obtain ⟨_, _, _, _, hg⟩ := chain_bounds h
 obtain ⟨ga, fa⟩ := hg _ (getD_mem' ss k zq1)
 obtain ⟨gb, fb⟩ := hg _ (getD_mem' ss (k + 1) zq1)
 rw [e2, e1, tots_append, tots_append, tots_one, tots_one] at t2
 rw [e2, e1, nlin_append, nlin_append, nlin_one, nlin_one] at n2
 rw [e1, nlin_append, nlin_one] at b2
 generalize ss.getD k zS = a at ga fa b1 b2 t2 n2 ⊢
 generalize ss.getD (k + 1) zS = b at gb fb b2 t2 n2 ⊢
 have va : valid a = true := by
  obtain ⟨a0, a1, a2, a3⟩ := a
  injection ga with _ ga; injection ga with _ ga; injection ga with g2 g3
  unfold valid
  simp only [Bool.and_eq_true, decide_eq_true_eq]
  exact ⟨fa, g2, g3⟩
 have vb : valid b = true := by
  obtain ⟨b0, b1, b2, b3⟩ := b
  injection gb with _ gb; injection gb with _ gb; injection gb with g2 g3
  unfold valid
  simp only [Bool.and_eq_true, decide_eq_true_eq]
  exact ⟨fb, g2, g3⟩
 have hab : b.1 = a.1 + (a.2.1.length : Int) := by rw [b2, b1]; omega
 have htt : totalB a.2.1 + totalB b.2.1 ≤ 20000 := by omega
 refine ⟨?_, ?_, htt, zq1⟩
 ·unfold Mrg.mrgOk
  simp only [Bool.and_eq_true, decide_eq_true_eq]
  exact ⟨va, vb, hab, htt⟩
 ·unfold fits at fa fb ⊢
  simp only [Bool.and_eq_true, decide_eq_true_eq] at fa fb ⊢
  obtain ⟨⟨⟨⟨⟨f1, f2⟩, f3⟩, f4⟩, f5⟩, f6⟩ := fa
  obtain ⟨⟨⟨⟨⟨g1, g2⟩, g3⟩, g4⟩, g5⟩, g6⟩ := fb
  refine ⟨⟨⟨⟨⟨f1, f2⟩, by rw [List.length_append]; omega⟩, by rw [List.length_append]; omega⟩, ?_⟩, by rw [total_append]; omega⟩
  unfold plain at f5 g5 ⊢
  rw [List.all_append, f5, g5]; rfl
theorem jn_good {ss : List SegT} {bs : List (List Int)} (h : Chain 0 ss bs) (ht : tots ss ≤ 20000) (hg : ∀ s ∈ ss, Sto.Good s) (k : Nat) (hk : k + 2 ≤ ss.length) : Sto.Good (jn ss k) := by
 obtain ⟨_, h2, _, _⟩ := nb h ht k hk
 refine ⟨rfl, h2, ?_⟩
 intro l hl
 rcases List.mem_append.1 hl with hl | hl
 ·exact (hg _ (getD_mem' ss k zq1)).2.2 l hl
 ·exact (hg _ (getD_mem' ss (k + 1) zq1)).2.2 l hl
theorem mrg_calls (a b : SegT) (va vb : Value) (w : World) (ha : tSeg.K w a va) (hb : tSeg.K w b vb) (sa : HelpSeg.smallSeg a) (sb : HelpSeg.smallSeg b) (ya : Bytes a.2.1) (yb : Bytes b.2.1) (hok : Mrg.mrgOk a b = true) :
  Calls Tryz.prog 61 #[va, vb] w fun e w' => ∃ (A1 : Option Addr) (c1 : Nat) (A2 : Option Addr) (c2 : Nat) (A3 : Option Addr) (c3 : Nat), e = .returned (.tuple #[.agg #[.int .i64 a.1, .slice A1 (a.2.1 ++ b.2.1).length c1, .slice A2 (keys (a.2.1 ++ b.2.1)).length c2, .slice A3 (keys (a.2.1 ++ b.2.1)).length c3], .int .i64 0]) ∧ kSeg.M w' w.heap.size (fun _ => True) (seg a.1 (a.2.1 ++ b.2.1)) [.int .i64 a.1, .slice A1 (a.2.1 ++ b.2.1).length c1, .slice A2 (keys (a.2.1 ++ b.2.1)).length c2, .slice A3 (keys (a.2.1 ++ b.2.1)).length c3] ∧ Grew w w' := by
 have h := Mrg.implC a b va vb w ha hb sa sb ya yb
 rw [Mrg.mrg_good hok] at h
 refine h.mono ?_
 rintro e w' ⟨v, rfl, hM, hg⟩
 obtain ⟨A1, c1, A2, c2, A3, c3, ev, hk⟩ := kSeg_mk hM
 have e3 : (seg a.1 (a.2.1 ++ b.2.1)).2.2.2.length = (keys (a.2.1 ++ b.2.1)).length := List.length_map ..
 rw [e3] at ev hk
 subst ev
 exact ⟨A1, c1, A2, c2, A3, c3, rfl, hk, hg⟩
theorem asc_one {K : List Int} (h : Asc K) (t : Int) : (K.filter fun x => decide (x = t)).length ≤ 1 := by
  induction K with
  | nil => simp
  | cons k r ih =>
    have h' : List.Pairwise (· < ·) (k :: r) := h
    obtain ⟨h1, h2⟩ := List.pairwise_cons.1 h'
    rw [List.filter_cons]
    by_cases e : k = t
    · subst e
      have e0 : (r.filter fun x => decide (x = k)) = [] := List.filter_eq_nil_iff.2 fun x hx he => by
        have h3 := h1 x hx
        have h4 : x = k := of_decide_eq_true he
        rw [h4] at h3
        exact Int.lt_irrefl _ h3
      rw [if_pos zq12, e0]; simp
    · rw [if_neg (by simpa using e)]; exact ih h2
theorem asc_in {K : List Int} (h : Asc K) (T : List Int) : (K.filter fun x => decide (x ∈ T)).length ≤ T.length := by
 induction T with
 | nil => simp
 | cons t r ih =>
  have h1 := asc_one h t
  have h2 : ∀ L : List Int, (L.filter fun x => decide (x ∈ t :: r)).length ≤ (L.filter fun x => decide (x = t)).length + (L.filter fun x => decide (x ∈ r)).length := by
   intro L
   induction L with
   | nil => simp
   | cons x L ih =>
    rw [List.filter_cons, List.filter_cons, List.filter_cons]
    by_cases e1 : x = t
    ·rw [if_pos (by simp [e1]), if_pos (by simp [e1])]; split <;> simp only [List.length_cons] <;> omega
    ·by_cases e2 : x ∈ r
     ·rw [if_pos (by simp [e2]), if_neg (by simpa using e1), if_pos (by simpa using e2)]; simp only [List.length_cons]; omega
     ·rw [if_neg (by simp [e1, e2]), if_neg (by simpa using e1), if_neg (by simpa using e2)]; exact ih
  have h3 := h2 K
  simp only [List.length_cons]
  omega
theorem post_tot (b : Int) (ls : List (List Int)) {K : List Int} (h : Asc K) (n : Nat) (hn : n ≤ ls.length) : HelpII.totalI (K.map (post b ls n)) ≤ totalB (ls.take n) := by
 induction n with
 | zero =>
  have e : ∀ L : List Int, HelpII.totalI (L.map (post b ls 0)) = 0 := by
   intro L
   induction L with
   | nil => rfl
   | cons k r ih => rw [List.map_cons]; show (post b ls 0 k).length + HelpII.totalI (r.map (post b ls 0)) = 0; rw [ih]; rfl
  rw [e]; exact Nat.zero_le _
 | succ n ih =>
  have h1 := ih zq1
  have e : ∀ L : List Int, HelpII.totalI (L.map (post b ls (n + 1))) = HelpII.totalI (L.map (post b ls n)) + (L.filter fun x => decide (x ∈ tris (ls.getD n []))).length := by
   intro L
   induction L with
   | nil => rfl
   | cons k r ih =>
    rw [List.map_cons, List.map_cons, List.filter_cons]
    show (post b ls (n + 1) k).length + HelpII.totalI (r.map (post b ls (n + 1))) = ((post b ls n k).length + HelpII.totalI (r.map (post b ls n))) + _
    rw [ih, post_succ, List.length_append]
    by_cases hk : k ∈ tris (ls.getD n [])
    ·rw [if_pos (show hasT ls k n = true from by unfold hasT; simpa using hk), if_pos (by simpa using hk)]; simp only [List.length_cons, List.length_nil]; omega
    ·rw [if_neg (show ¬ hasT ls k n = true from by unfold hasT; simpa using hk), if_neg (by simpa using hk)]; simp only [List.length_nil]; omega
  have h2 := asc_in h (tris (ls.getD n []))
  have h3 : (tris (ls.getD n [])).length ≤ (ls.getD n []).length := by rw [tris_length]; omega
  have h4 : totalB (ls.take (n + 1)) = totalB (ls.take n) + (ls.getD n []).length := by
   rw [List.take_succ_eq_append_getElem zq1, total_append, List.getD, List.getElem?_eq_getElem zq1]
   simp [totalB]
  rw [e, h4]
  omega
theorem small_seg (b : Int) (ls : List (List Int)) (hl : ls.length ≤ 1000) (ht : totalB ls ≤ 20000) : HelpSeg.smallSeg (seg b ls) := by
 have h1 := keys_len ls
 have h2 := post_tot b ls (K := keys ls) (asc_ord _) ls.length (Nat.le_refl _)
 rw [List.take_length] at h2
 show (ls.length + totalB ls) + (keys ls).length + (((keys ls).map (post b ls ls.length)).length + HelpII.totalI ((keys ls).map (post b ls ls.length))) ≤ 1048576
 rw [List.length_map]
 omega
theorem seg_small {s : SegT} (h : Sto.Good s) : HelpSeg.smallSeg s := by
 obtain ⟨h1, h2, _⟩ := h
 have hf : s.2.1.length ≤ 1000 ∧ totalB s.2.1 ≤ 20000 := by
  unfold fits at h2
  simp only [Bool.and_eq_true, decide_eq_true_eq] at h2
  obtain ⟨⟨⟨⟨⟨f1, f2⟩, f3⟩, f4⟩, f5⟩, f6⟩ := h2
  exact ⟨zq1, f6⟩
 rw [h1]
 exact small_seg _ _ hf.1 hf.2
end Go.Proofs.YtmgmdnmfalepkaaGreat.Mer

namespace Go.Proofs.YtmgmdnmfalepkaaGreat.Mer
open Go.RowKit Go.Proofs.YtmgmdnmfalepkaaGreatW.PrintWords Go.Proofs.YtmgmdnmfalepkaaGreatW.PrintMore Go.Proofs.YtmgmdnmfalepkaaGreat.Kit Go.Proofs.YtmgmdnmfalepkaaGreat.PKit Go.Proofs.YtmgmdnmfalepkaaGreat.Ty Go.Proofs.YtmgmdnmfalepkaaGreat.PTri Go.Proofs.YtmgmdnmfalepkaaGreat.PSeg Go.Proofs.YtmgmdnmfalepkaaGreat.PEnc Go.Proofs.YtmgmdnmfalepkaaGreat.PDec Go.Proofs.YtmgmdnmfalepkaaGreat.PSta Go.Proofs.YtmgmdnmfalepkaaGreat.HelpBB Go.Proofs.YtmgmdnmfalepkaaGreat.HelpSeg
open Go.Proofs.YtmgmdnmfalepkaaGreat.Build hiding code ans
open Go.Proofs.YtmgmdnmfalepkaaGreat.Sto Go.Proofs.YtmgmdnmfalepkaaGreat.Rep
set_option linter.unusedVariables false
set_option linter.unusedSimpArgs false
def mer_ (x : StaT) (k : Int) : StaT × Int := match segsOf x with
 | none => (([], []), 4)
 | some ss => if 0 ≤ k ∧ k + 1 < (ss.length : Int) then (((repl ss k.toNat (jn ss k.toNat)).map code, x.2), 0) else (x, 7)
theorem mer_chg (x : StaT) (k : Int) : mer_ x k = chg x (mrgF x.2 k) := by
 unfold mer_ chg
 cases h : segsOf x with
 | none => rfl
 | some ss =>
  have hc := chain_codes (segsOf_some h).1
  show (if 0 ≤ k ∧ k + 1 < (ss.length : Int) then (((repl ss k.toNat (jn ss k.toNat)).map code, x.2), 0) else (x, 7)) = (((mrgF x.2 k ss).1.1.map code, (mrgF x.2 k ss).1.2), (mrgF x.2 k ss).2)
  unfold mrgF
  by_cases hin : 0 ≤ k ∧ k + 1 < (ss.length : Int)
  ·rw [if_pos hin, if_pos hin]
  ·rw [if_neg hin, if_neg hin]; simp only; rw [hc]
theorem mer_good (x : StaT) (k : Int) (hb0 : Bytes x.1) (s1 : smallBB x.2) (ss : List SegT) (h : segsOf x = some ss) : (∀ s ∈ (mrgF x.2 k ss).1.1, Sto.Good s) ∧ (mrgF x.2 k ss).1.1.length ≤ 1048576 ∧ smallBB (mrgF x.2 k ss).1.2 := by
 obtain ⟨hch, _, _, htt⟩ := segsOf_some h
 have hg := chain_good hch hb0
 obtain ⟨n1, n2, n3⟩ := chain_len0 hch
 unfold mrgF
 by_cases hin : 0 ≤ k ∧ k + 1 < (ss.length : Int)
 ·rw [if_pos hin]
  have hk : k.toNat + 2 ≤ ss.length := by omega
  refine ⟨fun s hs => ?_, by show (repl ss k.toNat _).length ≤ _; rw [repl_len ss _ _ hk]; omega, s1⟩
  have hs' : s ∈ repl ss k.toNat (jn ss k.toNat) := hs
  unfold repl at hs'
  rcases List.mem_append.1 hs' with h1 | h1
  ·rcases List.mem_append.1 h1 with h2 | h2
   ·exact hg s (List.mem_of_mem_take h2)
   ·rw [List.mem_singleton.1 h2]; exact jn_good hch zq1 hg _ hk
  ·exact hg s (List.mem_of_mem_drop h1)
 ·rw [if_neg hin]
  exact ⟨hg, by show ss.length ≤ _; omega, s1⟩
def mrow (ss : List SegT) (k i : Nat) : List (List Int) := if i ≤ k then (ss.take i).map code else (ss.take k).map code ++ [code (jn ss k)] ++ ((ss.take i).drop (k + 2)).map code
theorem mrow_zero (ss : List SegT) (k : Nat) : mrow ss k 0 = [] := by unfold mrow; rw [if_pos (Nat.zero_le _)]; rfl
theorem mrow_lt (ss : List SegT) (k i : Nat) (h : i < k) (hi : i < ss.length) : mrow ss k (i + 1) = mrow ss k i ++ [code (ss.getD i zS)] := by
 unfold mrow
 rw [if_pos zq1, if_pos zq1, seg_snoc ss i hi, List.map_append]; rfl
theorem mrow_at (ss : List SegT) (k : Nat) (h : k + 2 ≤ ss.length) : mrow ss k (k + 1) = mrow ss k k ++ [code (jn ss k)] := by
 unfold mrow
 rw [if_neg zq1, if_pos zq1, List.drop_eq_nil_of_le zq39, List.map_nil, List.append_nil]
theorem mrow_skip (ss : List SegT) (k : Nat) (h : k + 2 ≤ ss.length) : mrow ss k (k + 2) = mrow ss k (k + 1) := by
 unfold mrow
 rw [if_neg zq1, if_neg zq1, List.drop_eq_nil_of_le zq39, List.drop_eq_nil_of_le zq39]
theorem mrow_gt (ss : List SegT) (k i : Nat) (h : k + 2 ≤ i) (hi : i < ss.length) : mrow ss k (i + 1) = mrow ss k i ++ [code (ss.getD i zS)] := by
 unfold mrow
 rw [if_neg zq1, if_neg zq1, seg_snoc ss i hi, List.drop_append_of_le_length zq39, List.map_append, ← List.append_assoc]; rfl
theorem mrow_all (ss : List SegT) (k : Nat) (h : k + 2 ≤ ss.length) : mrow ss k ss.length = (repl ss k (jn ss k)).map code := by
 unfold mrow repl
 rw [if_neg zq1, List.take_length, List.map_append, List.map_append]; rfl
theorem mrow_len (ss : List SegT) (k i : Nat) (hi : i ≤ ss.length) : (mrow ss k i).length ≤ ss.length + 1 := by
 unfold mrow
 split
 ·rw [List.length_map, List.length_take]; omega
 ·rw [List.length_append, List.length_append, List.length_map, List.length_map, List.length_drop, List.length_take, List.length_take, List.length_singleton]; omega
theorem flat_two (ss : List SegT) (k : Nat) (h : k + 2 ≤ ss.length) : (ss.take (k + 2)).drop k = [ss.getD k zS, ss.getD (k + 1) zS] := by
 rw [seg_snoc ss (k + 1) zq1, seg_snoc ss k zq1, List.append_assoc, List.drop_left' zq39]; rfl
theorem sml (a b : List (List Int)) (h1 : a.length ≤ 1099511627776) (h2 : b.length ≤ 1099511627776) (h3 : totalB a + totalB b ≤ 1099511627000) : HelpSta.bdSta (a, b) ∧ HelpSta.cntSta (a, b) ≤ 1099511627000 :=
 ⟨⟨⟨h1, by show totalB a ≤ _; omega⟩, ⟨h2, by show totalB b ≤ _; omega⟩⟩, h3⟩
theorem ans_small (x0 : StaT) (k : Int) (s0 : HelpSta.smallSta x0) (y0 : Bytes x0.1) (y1 : Bytes x0.2) (hk0 : -9223372036854775808 ≤ k) (hk1 : k ≤ 9223372036854775807) : HelpSta.bdSta (mer_ x0 k).1 ∧ HelpSta.cntSta (mer_ x0 k).1 ≤ 1099511627000 := by
 have h0 : (x0.1.length + totalB x0.1) + (x0.2.length + totalB x0.2) ≤ 1048576 := s0
 unfold mer_
 cases hs : segsOf x0 with
 | none => exact sml [] [] zq15 zq15 zq15
 | some ss =>
  obtain ⟨hch, _, _, htt⟩ := segsOf_some hs
  have hg := chain_good hch y0
  have hc := chain_codes hch
  obtain ⟨n1, n2, n3⟩ := chain_len0 hch
  show HelpSta.bdSta (if 0 ≤ k ∧ k + 1 < (ss.length : Int) then (((repl ss k.toNat (jn ss k.toNat)).map code, x0.2), (0 : Int)) else (x0, 7)).1 ∧ HelpSta.cntSta (if 0 ≤ k ∧ k + 1 < (ss.length : Int) then (((repl ss k.toNat (jn ss k.toNat)).map code, x0.2), (0 : Int)) else (x0, 7)).1 ≤ _
  by_cases hin : 0 ≤ k ∧ k + 1 < (ss.length : Int)
  ·rw [if_pos hin]
   have hk : k.toNat + 2 ≤ ss.length := by omega
   obtain ⟨_, g2, g3⟩ := jn_good hch zq1 hg _ hk
   have hl := code_len (encOk_seg g2 g3)
   have hj : jn ss k.toNat = seg (jn ss k.toNat).1 (jn ss k.toNat).2.1 := rfl
   rw [← hj] at hl
   have t1 := total_take (ss.map code) k.toNat
   have t2 : totalB ((ss.map code).drop (k.toNat + 2)) ≤ totalB (ss.map code) := by
    have e := List.take_append_drop (k.toNat + 2) (ss.map code)
    have e2 := total_append ((ss.map code).take (k.toNat + 2)) ((ss.map code).drop (k.toNat + 2))
    rw [e] at e2; omega
   rw [hc] at t1 t2
   refine sml _ _ (by rw [List.length_map, repl_len ss _ _ hk]; omega) zq1 ?_
   unfold repl
   rw [List.map_append, List.map_append, total_append, total_append, List.map_take, List.map_drop, hc, List.map_cons, List.map_nil]
   have e1 : totalB [code (jn ss k.toNat)] = (code (jn ss k.toNat)).length := by simp [totalB]
   rw [e1]
   omega
  ·rw [if_neg hin]
   exact sml x0.1 x0.2 zq1 zq1 zq1
end Go.Proofs.YtmgmdnmfalepkaaGreat.Mer

namespace Go.Proofs.YtmgmdnmfalepkaaGreat.Bld
open Go.RowKit Go.Proofs.YtmgmdnmfalepkaaGreatW.PrintWords Go.Proofs.YtmgmdnmfalepkaaGreatW.PrintMore Go.Proofs.YtmgmdnmfalepkaaGreat.Kit Go.Proofs.YtmgmdnmfalepkaaGreat.PKit Go.Proofs.YtmgmdnmfalepkaaGreat.Ty Go.Proofs.YtmgmdnmfalepkaaGreat.PTri Go.Proofs.YtmgmdnmfalepkaaGreat.PSeg Go.Proofs.YtmgmdnmfalepkaaGreat.Build Go.Proofs.YtmgmdnmfalepkaaGreat.HelpBB
set_option linter.unusedVariables false
set_option linter.unusedSimpArgs false
theorem cells4 {w : World} {g : Nat} {t : TypeId} {a0 a1 a2 a3 : Value} (h : w.heap[g]? = some (.cells #[a0, a1, a2, a3] t (0, 0))) : (w.cell? ⟨g, 0, none⟩ = some a0 ∧ w.frozen? ⟨g, 0, none⟩ = false) ∧ (w.cell? ⟨g, 1, none⟩ = some a1 ∧ w.frozen? ⟨g, 1, none⟩ = false) ∧ (w.cell? ⟨g, 2, none⟩ = some a2 ∧ w.frozen? ⟨g, 2, none⟩ = false) ∧ (w.cell? ⟨g, 3, none⟩ = some a3 ∧ w.frozen? ⟨g, 3, none⟩ = false) := ⟨⟨(blk_cell h 0).trans rfl, blk_frozen h 0⟩, ⟨(blk_cell h 1).trans rfl, blk_frozen h 1⟩, ⟨(blk_cell h 2).trans rfl, blk_frozen h 2⟩, ⟨(blk_cell h 3).trans rfl, blk_frozen h 3⟩⟩
theorem infoI : (Tryz.prog.info? 3).map (fun i => (i.zero, i.size, i.bytes)) = some (some (.int .i64 0), 1, 8) := by kernel_rfl
theorem infoII : (Tryz.prog.info? 56).map (fun i => (i.zero, i.size, i.bytes)) = some (some (.slice none 0 0), 1, 24) := by kernel_rfl
theorem tri_calls (A : Option Addr) (c : Nat) (l : List Int) (w : World) (hr : Kd.C (Kd.int .u8) w A l.length l) (hc : l.length ≤ c) (hb : ∀ x ∈ l, 0 ≤ x ∧ x ≤ 255) (hs : l.length ≤ 1048576) :
  Calls Tryz.prog 57 #[.slice A l.length c] w fun e w' => ∃ v, e = .returned v ∧ Kd.R (Kd.int .i64) 3 w' w.heap.size (fun _ => True) v (ord (tris l)) ∧ Below w.heap.size w w' := by
 obtain ⟨k, hk⟩ := (PTri.spec_ev l hb hs).rounds
 exact L.spec_Trigrams.calls k A c l _ w hr hc hk
theorem copy_spec (A : Option Addr) (c : Nat) (ls : List (List Int)) (w : World) (hr : Kd.C kB w A ls.length ls) (hc : ls.length ≤ c) (hs : smallBB ls) :
  Calls Tryz.prog 33 #[.slice A ls.length c] w fun e w' => ∃ v, e = .returned v ∧ Kd.S kB 25 w' w.heap.size (fun _ => True) v ls ∧ Below w.heap.size w w' := by
 obtain ⟨k, hk⟩ := (copy_ev ls hs).rounds
 exact L.spec_l4copy.calls k A c ls _ w hr hc hk
theorem keys_spec (A : Option Addr) (c : Nat) (ls : List (List Int)) (w : World) (hr : Kd.C kB w A ls.length ls) (hc : ls.length ≤ c) (hb : Bytes ls) (hs : smallBB ls) :
  Calls Tryz.prog 56 #[.slice A ls.length c] w fun e w' => ∃ v, e = .returned v ∧ Kd.R (Kd.int .i64) 3 w' w.heap.size (fun _ => True) v (keys ls) ∧ Below w.heap.size w w' := by
 obtain ⟨k, hk⟩ := (keys_ev ls.length ls (Nat.le_refl _) hb hs).rounds
 exact L.spec_l4keys.calls k A c ls _ w hr hc hk
theorem inl_calls (A : Option Addr) (c : Nat) (T : List Int) (t : Int) (W : World) (hr : Kd.C (Kd.int .i64) W A T.length T) (hc : T.length ≤ c) (hl : T.length ≤ 1048576) :
  Calls Tryz.prog 58 #[.slice A T.length c, .int .i64 t] W fun e w' => e = .returned (.bool (decide (t ∈ T))) ∧ ∃ nd, w' = W.drewN nd := by
 obtain ⟨k, hk⟩ := (inList_ev T t zq1).rounds
 refine (L.spec_l2inList.calls k A c T t _ W hr hc hk).mono ?_
 rintro e w' ⟨rfl, hd⟩
 exact ⟨rfl, hd.out⟩
set_option maxRecDepth 100000 in
set_option maxHeartbeats 8000000 in
theorem bld_calls (b : Int) (A : Option Addr) (n c : Nat) (ls : List (List Int)) (hn : n = ls.length) (w : World) (hr : Kd.C kB w A ls.length ls) (hc : ls.length ≤ c) (hb : Bytes ls) (hs : smallBB ls) (b0 : 0 ≤ b) (b1 : b ≤ 1000) (hl : ls.length ≤ 1000) :
  Calls Tryz.prog 34 #[.int .i64 b, .slice A n c] w fun e w' => ∃ (A1 : Option Addr) (c1 : Nat) (A2 : Option Addr) (c2 : Nat) (A3 : Option Addr) (c3 : Nat), e = .returned (.agg #[.int .i64 b, .slice A1 n c1, .slice A2 (keys ls).length c2, .slice A3 (keys ls).length c3]) ∧ HelpBB.tBB.M w' w.heap.size (fun _ => True) ls (.slice A1 n c1) ∧ HelpI.tI.M w' w.heap.size (fun _ => True) (keys ls) (.slice A2 (keys ls).length c2) ∧ HelpII.tII.M w' w.heap.size (fun _ => True) ((keys ls).map (post b ls ls.length)) (.slice A3 (keys ls).length c3) ∧ Grew w w' := by
 subst hn
 have huI := Tryz.underlying59
 have HR := zA hr
 have HY := zA hb
 have hcp := fun (W : World) (hW : Below w.heap.size w W) => copy_spec A c ls W (Kd.C_below HR.out hW) hc hs
 have hky := fun (W : World) (hW : Below w.heap.size w W) => keys_spec A c ls W (Kd.C_below HR.out hW) hc HY.out hs
 have HCP := zA hcp
 have HKY := zA hky
 have HSM := zA hs
 clear hr hb hcp hky hs
 go_enter Tryz.func34, Tryz.ntmps34
 go_wp2_with (((with_reducible refine gate_dst (N := 4) rfl ?_); refine box_event ?hg (N := 4) ?hd (cs := #[.int .i64 0, .slice none 0 0, .slice none 0 0, .slice none 0 0]) (t := 59) ?hr ?_; (case hd => rfl); (case hg => rfl); (case hr => first | (go_simp; done) | (go_simp; rfl)); intro gr hg_ w1 hbx hbb; have BKgr := zA hbx; have GEgr := zA (show w.heap.size ≤ gr from Nat.le_of_eq hg_.symm); have GLgr := zA (blk_lt hbx); have HBw1 := zA hbb; clear hg_ hbb; obtain ⟨⟨hgrc0, hgrf0⟩, ⟨hgrc1, hgrf1⟩, ⟨hgrc2, hgrf2⟩, ⟨hgrc3, hgrf3⟩⟩ := cells4 hbx; clear hbx))
 go_at_call 33
 refine (HCP.out _ HBw1.out).mono ?_
 rintro e w2 ⟨v2, rfl, hS2, hb2⟩
 obtain ⟨A1, c1, rfl⟩ := Kd.S_slice hS2
 have HC2 := zA hS2
 have HB12 := zA hb2
 have HB2 := zA (show Below w.heap.size w w2 from grew_trans HBw1.out hb2)
 replace BKgr := zA (blk_below BKgr.out hb2)
 clear hgrc0 hgrf0 hgrc1 hgrf1 hgrc2 hgrf2 hgrc3 hgrf3
 clear hS2 hb2
 go_wp2_with fail
 obtain ⟨gs, hgs⟩ : ∃ g_, g_ = w2.heap.size := ⟨_, rfl⟩
 obtain ⟨w3, hw3⟩ : ∃ w_, w_ = w2.alloc (.cells #[.int .i64 b, .slice A1 ls.length c1, .slice none 0 0, .slice none 0 0] 59 (0, 0)) := ⟨_, rfl⟩
 rw [← hw3, ← hgs]
 have BKgs := zA (show w3.heap[gs]? = some (.cells #[.int .i64 b, .slice A1 ls.length c1, .slice none 0 0, .slice none 0 0] 59 (0, 0)) from by rw [hw3, hgs]; exact blk_new w2 _)
 have hb3 : Below w2.heap.size w2 w3 := by rw [hw3]; exact below_alloc (Below.refl _ _) _
 have GS := zA (show w2.heap.size ≤ gs from Nat.le_of_eq hgs.symm)
 have HB23 := zA hb3
 have HB3 := zA (show Below w.heap.size w w3 from grew_trans HB2.out hb3)
 replace BKgr := zA (blk_below BKgr.out hb3)
 have GSL := zA (blk_lt BKgs.out)
 have NEGR := zA (show gr ≠ gs from fun e => by have h1 := GLgr.out; have h2 := GS.out; have h3 := HB12.out.size; omega)
 clear hgs hw3 hb3
 go_at_call 56
 refine (HKY.out w3 HB3.out).mono ?_
 rintro e w4 ⟨v4, rfl, hR4, hb4⟩
 obtain ⟨A2, c2, rfl⟩ := Kd.R_slice hR4
 replace BKgr := zA (blk_below BKgr.out hb4)
 replace BKgs := zA (blk_below BKgs.out hb4)
 have HB34 := zA hb4
 have HR4 := zA hR4
 have HB4 := zA (show Below w.heap.size w w4 from grew_trans HB3.out hb4)
 clear hR4 hb4
 obtain ⟨⟨sc0, sf0⟩, ⟨sc1, sf1⟩, ⟨sc2, sf2⟩, ⟨sc3, sf3⟩⟩ := cells4 BKgs.out
 go_wp2_with fail
 obtain ⟨w5, hw5⟩ : ∃ w_, w_ = w4.setCell ⟨gs, 2, none⟩ (.slice A2 (keys ls).length c2) := ⟨_, rfl⟩
 rw [← hw5]
 have HZ45 := zA (show w5.heap.size = w4.heap.size from by rw [hw5]; simp [World.setCell])
 have HB45 := zA (show Below w.heap.size w w5 from by rw [hw5]; exact below_set HB4.out (Nat.le_trans HB2.out.size GS.out))
 replace BKgs := zA (show w5.heap[gs]? = some (.cells #[.int .i64 b, .slice A1 ls.length c1, .slice A2 (keys ls).length c2, .slice none 0 0] 59 (0, 0)) from by rw [hw5]; exact blk_put (cs := #[.int .i64 b, .slice A1 ls.length c1, .slice none 0 0, .slice none 0 0]) BKgs.out 2 _ rfl)
 replace BKgr := zA (show w5.heap[gr]? = some (.cells #[.int .i64 0, .slice none 0 0, .slice none 0 0, .slice none 0 0] 59 (0, 0)) from by rw [hw5]; exact blk_far BKgr.out NEGR.out _)
 have HZ5 := zA (show w3.heap.size ≤ w5.heap.size from by have h1 := HZ45.out; have h2 := HB34.out.size; omega)
 replace HC2 := zA (show HelpBB.tBB.M w5 w.heap.size (fun k => gr < k ∧ k < gs) ls (.slice A1 ls.length c1) from by
  rw [hw5]
  exact HelpBB.tBB.M_mono (fun k hk => by have h1 := hk.2.2; have h2 := GS.out; have h3 := hk.2.1; have h4 := GLgr.out; exact ⟨zq1, zq1⟩) (Ty.M_set (T := HelpBB.tBB) (Ty.M_below (T := HelpBB.tBB) (HelpBB.tBB.M_lower HBw1.out.size (HelpBB.tBB.M_bound HC2.out)) (grew_trans HB23.out HB34.out)) (fun k hk e => by have h1 := hk.2.2; have h2 := GS.out; omega) _))
 replace HR4 := zA (show HelpI.tI.M w5 w.heap.size (fun k => gs < k ∧ k < w5.heap.size) (keys ls) (.slice A2 (keys ls).length c2) from by
  have hz := HZ45.out
  rw [hz, hw5]
  exact HelpI.tI.M_mono (fun k hk => by have h1 := hk.2.1; have h2 := GSL.out; have h3 := hk.2.2; exact ⟨zq1, h3⟩) (Ty.M_set (T := HelpI.tI) (HelpI.tI.M_lower HB3.out.size (HelpI.tI.M_bound HR4.out)) (fun k hk e => by have h1 := hk.2.1; have h2 := GSL.out; omega) _))
 clear hw5 sc0 sf0 sc1 sf1 sc2 sf2 sc3 sf3
 go_loopg [6, 7] ls.length (fun gg s6 s7 wr => ∃ i : Nat, i ≤ ls.length ∧ ls.length - i ≤ gg ∧ s7 = .int .i64 (i : Int) ∧ Aside0 (Kd.S HelpII.kI 56 wr w5.heap.size (fun _ => True) s6 ((ls.take i).map fun l => ord (tris l))) ∧ Aside0 (Below w5.heap.size w5 wr))
 case atStart => exact ⟨0, zq1, zq1, rfl, ⟨Kd.S_nil _ _ _ _ _⟩, ⟨Below.refl _ _⟩⟩
 case round =>
  obtain ⟨i, hi, hg, rfl, HS, HB⟩ := hrel
  by_cases hlt : i < ls.length
  ·have hltz : (i : Int) < (ls.length : Int) := by omega
   have ht := getD_len ls i
   have hsm : ls.length + totalB ls ≤ 1048576 := HSM.out
   have HBT := zA (show Below w.heap.size w wr from grew_trans HB45.out HB.out)
   obtain ⟨ad, u, rfl, hcell0, hK⟩ := get_one (d := kB) rfl HR.out [] i hlt
   obtain ⟨A', c', e', hc', hr'⟩ := hK
   obtain rfl : u = .slice A' (ls.getD i []).length c' := by injection e'
   have hcell : wr.cell? (ad.add i) = some (.slice A' (ls.getD i []).length c') := (HBT.out.cell (World.block_lt_of_cell? w _ hcell0)).trans hcell0
   have htr := tri_calls A' c' (ls.getD i []) wr (Kd.C_below hr' HBT.out) hc' (getD_bytes HY.out i) zq1
   have hts : (ls.take (i + 1)).map (fun l => ord (tris l)) = (ls.take i).map (fun l => ord (tris l)) ++ [ord (tris (ls.getD i []))] := by rw [take_snoc ls i hlt, List.map_append]; rfl
   have hol : (ord (tris (ls.getD i []))).length ≤ 1048576 := by have h1 := ord_len (tris (ls.getD i [])); have h2 := tris_length (ls.getD i []); omega
   have HTR := zA htr
   have HTS := zA hts
   clear hr' e' hcell0 htr hts hsm
   generalize ord (tris (ls.getD i [])) = T at HTR HTS hol
   generalize ls.getD i [] = l at ht hcell hc' HTR
   go_wp2_with (first | (go_at_call 57; refine HTR.out.mono ?_; rintro e w7 ⟨v7, rfl, hR7, hb7⟩; obtain ⟨Av, cv, rfl⟩ := Kd.R_slice hR7) | (at_builtin; refine Kd.S_append HelpII.kI (w0 := w5) w5.heap.size rfl (.tmp 24) (.tmp 30) 57 56 (.slice none 0 0) 24 rfl Tryz.underlying57 infoII rfl zq15 zq1 u6 ((ls.take i).map fun l => ord (tris l)) T [.slice Av T.length cv] (fun _ => True) (fun k_ => some k_ = (.slice Av T.length cv : Value).ownBlock) rfl rfl ?aP ?aK (fun _ _ => trivial) ?aO ?aB ?aS ?aL ?_; (case aP => exact Kd.M_row (Kd.R_lower (Kd.R_tight rfl hR7) HB.out.size)); (case aK => exact fun k hk => ⟨trivial, fun e => by have h1 := Kd.R_base hR7 k hk.symm; have h2 := Kd.S_lt HS.out k e.symm; omega⟩); (case aO => exact Kd.S_mono (Kd.S_old HS.out hb7) (fun k hk => ⟨trivial, fun e => by have h1 := Kd.R_base hR7 k e.symm; have h2 := hk.2; omega⟩)); (case aB => exact grew_trans HB.out hb7); (case aS => exact (grew_trans HB.out hb7).size); (case aL => (rw [List.length_map, List.length_take]; omega)); intro v8 w8 hO8 hB8 hg8 hat8))
   go_roundg (ls.length - (i + 1))
   case measure => omega
   case rel => exact ⟨i + 1, zq1, zq1, by go_num, ⟨by rw [HTS.out]; exact hO8⟩, ⟨hB8⟩⟩
  ·have hltz : ¬ (i : Int) < (ls.length : Int) := by omega
   obtain rfl : i = ls.length := by omega
   have hS := HS.out
   rw [List.take_length] at hS
   obtain ⟨A4, c4, rfl⟩ := Kd.S_slice hS
   have HT := zA (show HelpII.tII.M wr w5.heap.size (fun k => w5.heap.size ≤ k ∧ k < wr.heap.size) (ls.map fun l => ord (tris l)) (.slice A4 (ls.map fun l => ord (tris l)).length c4) from HelpII.tII.M_mono (fun k hk => ⟨hk.2.1, hk.2.2⟩) (HelpII.tII.M_bound hS))
   rename World => wP
   replace BKgs := zA (blk_below BKgs.out HB.out)
   replace BKgr := zA (blk_below BKgr.out HB.out)
   replace HC2 := zA (Ty.M_below (T := HelpBB.tBB) HC2.out HB.out)
   replace HR4 := zA (Ty.M_below (T := HelpI.tI) HR4.out HB.out)
   have HBP := zA (show Below w.heap.size w wP from grew_trans HB45.out HB.out)
   have HZP := zA HB.out.size
   have GSP := zA (blk_lt BKgs.out)
   have hkl : (keys ls).length ≤ 1048576 := by have h1 := keys_len ls; have h2 : ls.length + totalB ls ≤ 1048576 := HSM.out; omega
   clear hS HS HB
   go_wp2_with fail
   go_loopg [8] (keys ls).length (fun gg s8 wr => ∃ (j : Nat) (Ap : Option Addr) (cp : Nat), j ≤ (keys ls).length ∧ (keys ls).length - j ≤ gg ∧ s8 = .int .i64 (j : Int) ∧ Aside0 (wr.heap[gs]? = some (.cells #[.int .i64 b, .slice A1 ls.length c1, .slice A2 (keys ls).length c2, .slice Ap j cp] 59 (0, 0))) ∧ Aside0 (Kd.S HelpII.kI 56 wr w.heap.size (fun k => wP.heap.size ≤ k) (.slice Ap j cp) (((keys ls).take j).map (post b ls ls.length))) ∧ Aside0 (∀ k, (Value.slice Ap j cp).ownBlock = some k → wP.heap.size ≤ k) ∧ Aside0 (Kept wP wr (fun k => k = gs)) ∧ Aside0 (Below w.heap.size w wr))
   case atStart => exact ⟨0, none, 0, zq1, zq1, rfl, BKgs, ⟨Kd.S_nil _ _ _ _ _⟩, ⟨fun k hk => by simp [Value.ownBlock] at hk⟩, ⟨Kept.refl _ _⟩, HBP⟩
   case round =>
    obtain ⟨j, Ap, cp, hj, hg, rfl, HG, HS, HO, HK, HB⟩ := hrel
    by_cases hlj : j < (keys ls).length
    ·have hljz : (j : Int) < ((keys ls).length : Int) := by omega
     rename World => wq
     have hz9 := HK.out.1
     have HKC := zA (Kd.R_reads' (show Kd.R (Kd.int .i64) 3 wq w.heap.size _ (.slice A2 (keys ls).length c2) (keys ls) from Ty.M_kept (T := HelpI.tI) HR4.out HK.out (fun k hk e => by have h1 := hk.1; omega))).2.2
     have HTC := zA (Kd.S_reads' (show Kd.S HelpII.kI 56 wq w5.heap.size _ (.slice A4 (ls.map fun l => ord (tris l)).length c4) (ls.map fun l => ord (tris l)) from Ty.M_kept (T := HelpII.tII) HT.out HK.out (fun k hk e => by have h1 := hk.1; have h2 := GSL.out; have h3 := HZ5.out; omega))).2.2
     obtain ⟨adk, uk, rfl, hck, hKk⟩ := get_one (d := Kd.int .i64) rfl HKC.out 0 j hlj
     obtain rfl : uk = .int .i64 ((keys ls).getD j 0) := by cases hKk; rfl
     have HCK := zA hck
     have HTK := zA (show ((keys ls).take (j + 1)).map (post b ls ls.length) = ((keys ls).take j).map (post b ls ls.length) ++ [post b ls ls.length ((keys ls).getD j 0)] from by rw [List.take_succ_eq_append_getElem hlj, List.map_append]; simp [List.getD, List.getElem?_eq_getElem hlj])
     clear hck hKk HKC
     generalize (keys ls).getD j 0 = t at HCK HTK
     obtain ⟨⟨qc0, qf0⟩, ⟨qc1, qf1⟩, ⟨qc2, qf2⟩, ⟨qc3, qf3⟩⟩ := cells4 HG.out
     go_wp2_with fail
     clear qc0 qf0 qc1 qf1 qc2 qf2 qc3 qf3
     go_loopg [9, 10] ls.length (fun gg s9 s10 wr => ∃ i : Nat, i ≤ ls.length ∧ ls.length - i ≤ gg ∧ s10 = .int .i64 (i : Int) ∧ Aside0 (Kd.R (Kd.int .i64) 3 wr wq.heap.size (fun _ => True) s9 (post b ls i t)) ∧ Aside0 (Below wq.heap.size wq wr))
     case atStart => exact ⟨0, zq1, zq1, rfl, ⟨Kd.R_nil _ _ _ _ _⟩, ⟨Below.refl _ _⟩⟩
     case round =>
      obtain ⟨i, hi, hg, rfl, HR, HBI⟩ := hrel
      rename World => wi
      have BI := zA (blk_below HG.out HBI.out)
      by_cases hlt : i < ls.length
      ·have hltz : (i : Int) < (ls.length : Int) := by omega
       obtain ⟨adt, ut, rfl, hct, hKt⟩ := get_one (d := HelpII.kI) rfl HTC.out [] i (by rw [List.length_map]; exact hlt)
       obtain ⟨A', c', e', hc', hr'⟩ := hKt
       obtain rfl : ut = .slice A' ((ls.map fun l => ord (tris l)).getD i []).length c' := by injection e'
       have hT : (ls.map fun l => ord (tris l)).getD i [] = ord (tris (ls.getD i [])) := by simp [List.getD, List.getElem?_eq_getElem hlt]
       have hdec : decide (t ∈ (ls.map fun l => ord (tris l)).getD i []) = hasT ls t i := by
        rw [hT]
        unfold hasT
        exact decide_eq_decide.2 (mem_ord _ _)
       have htl : ((ls.map fun l => ord (tris l)).getD i []).length ≤ 1048576 := by
        have hsm : ls.length + totalB ls ≤ 1048576 := HSM.out
        have h1 := ord_len (tris (ls.getD i [])); have h2 := tris_length (ls.getD i []); have h3 := getD_len ls i
        rw [hT]; omega
       have HPS := zA (post_succ b ls i t)
       generalize (ls.map fun l => ord (tris l)).getD i [] = T at hct hc' hr' hdec htl
       have hcell : wi.cell? (adt.add i) = some (.slice A' T.length c') := (HBI.out.cell (World.block_lt_of_cell? wq _ hct)).trans hct
       have hck : wi.cell? (adk.add j) = some (.int .i64 t) := (HBI.out.cell (World.block_lt_of_cell? wq _ HCK.out)).trans HCK.out
       generalize hasT ls t i = hh at hdec HPS
       have HIN := zA (fun (W : World) (hW : Below wi.heap.size wi W) => show Calls Tryz.prog 58 #[.slice A' T.length c', .int .i64 t] W fun e w' => e = .returned (.bool hh) ∧ ∃ nd, w' = W.drewN nd from (inl_calls A' c' T t W (Kd.C_below (Kd.C_below hr' HBI.out) hW) hc' htl).mono (by rintro e w' ⟨rfl, h⟩; exact ⟨by rw [hdec], h⟩))
       clear hr' e' hT htl hdec
       obtain ⟨A9, c9, rfl⟩ := Kd.R_slice HR.out
       have hpl := post_len b ls i t
       have HPL := zA (show (post b ls i t).length ≤ 1000 from by omega)
       clear hpl
       generalize post b ls i t = P at HR HPS HPL
       have hwb : wrap64 (b + (i : Int)) = b + (i : Int) := wrap_in zq1
       have HWB := zA hwb
       clear hwb
       obtain ⟨⟨pc0, pf0⟩, ⟨pc1, pf1⟩, ⟨pc2, pf2⟩, ⟨pc3, pf3⟩⟩ := cells4 BI.out
       cases hh with
       | true =>
        go_wp2_with fail
        go_quiet ((go_at_call 58; (with_reducible refine (HIN.out _ ?s1).mono ?_); (case s1 => repeat (first | exact Below.refl _ _ | apply below_alloc | apply below_drew1 | apply pw_below_drewN)); rintro e w' ⟨rfl, ⟨nd, rfl⟩⟩; (try first | exact ⟨rfl, _, World.drewN_drewN _ _ _⟩ | exact ⟨rfl, _, Eq.trans (World.drewN_drewN _ _ _) (congrArg (World.drewN _) (Nat.add_assoc _ _ _))⟩)))
        go_wp2_with (at_builtin; refine Kd.R_append (Kd.int .i64) (w0 := wq) wq.heap.size rfl (.tmp 55) (.tmp 59) 56 3 (.int .i64 0) 8 rfl Tryz.underlying56 infoI rfl zq15 zq1 (.slice A9 P.length c9) P (b + (i : Int)) [.int .i64 (b + (i : Int))] (fun _ => True) (fun _ => False) rfl ?aQ ?aP (fun _ hk => hk.elim) (fun _ _ => trivial) ?aO ?aB ?aS ?aL ?_; (case aQ => (try rw [← HWB.out]); rfl); (case aP => rfl); (case aO => apply Kd.R_drewN; exact HR.out); (case aB => apply pw_below_drewN; exact HBI.out); (case aS => exact below_size (by apply pw_below_drewN; exact HBI.out)); (case aL => have := HPL.out; omega); intro v7 w7 hO7 hB7 hg7 hat7)
        go_roundg (ls.length - (i + 1))
        case measure => omega
        case rel => exact ⟨i + 1, zq1, zq1, by go_num, ⟨by rw [HPS.out]; simpa using hO7⟩, ⟨hB7⟩⟩
       | false =>
        go_wp2_with fail
        go_quiet ((go_at_call 58; (with_reducible refine (HIN.out _ ?s1).mono ?_); (case s1 => repeat (first | exact Below.refl _ _ | apply below_alloc | apply below_drew1 | apply pw_below_drewN)); rintro e w' ⟨rfl, ⟨nd, rfl⟩⟩; (try first | exact ⟨rfl, _, World.drewN_drewN _ _ _⟩ | exact ⟨rfl, _, Eq.trans (World.drewN_drewN _ _ _) (congrArg (World.drewN _) (Nat.add_assoc _ _ _))⟩)))
        go_wp2_with fail
        go_roundg (ls.length - (i + 1))
        case measure => omega
        case rel => exact ⟨i + 1, zq1, zq1, by go_num, ⟨by rw [HPS.out]; simp only [Bool.false_eq_true, if_false, List.append_nil]; apply Kd.R_drewN; exact HR.out⟩, ⟨by apply pw_below_drewN; exact HBI.out⟩⟩
      ·have hltz : ¬ (i : Int) < (ls.length : Int) := by omega
       obtain rfl : i = ls.length := by omega
       obtain ⟨A9, c9, rfl⟩ := Kd.R_slice HR.out
       have HSL := zA (show (post b ls ls.length t).length ≤ 1000 from by have h1 := post_len b ls ls.length t; omega)
       have HSQ := zA (show HelpII.tII.M wi w.heap.size (fun k => wP.heap.size ≤ k ∧ k < wq.heap.size) (((keys ls).take j).map (post b ls ls.length)) (.slice Ap j cp) from HelpII.tII.M_mono (fun k hk => ⟨hk.1, hk.2.2⟩) (Ty.M_below (T := HelpII.tII) (HelpII.tII.M_bound HS.out) HBI.out))
       have HOL := zA (fun k (h : (Value.slice Ap j cp).ownBlock = some k) => Kd.S_lt HS.out k h)
       have HPB := zA (fun k (h : (Value.slice A9 (post b ls ls.length t).length c9).ownBlock = some k) => Kd.R_base HR.out k h)
       obtain ⟨⟨pc0, pf0⟩, ⟨pc1, pf1⟩, ⟨pc2, pf2⟩, ⟨pc3, pf3⟩⟩ := cells4 BI.out
       go_wp2_with (at_builtin; refine Kd.S_append HelpII.kI (w0 := w) w.heap.size rfl (.tmp 62) (.tmp 64) 57 56 (.slice none 0 0) 24 rfl Tryz.underlying57 infoII rfl zq15 zq1 (.slice Ap j cp) (((keys ls).take j).map (post b ls ls.length)) (post b ls ls.length t) [.slice A9 (post b ls ls.length t).length c9] (fun k => wP.heap.size ≤ k) (fun k_ => some k_ = (.slice A9 (post b ls ls.length t).length c9 : Value).ownBlock) rfl rfl ?aP ?aK ?aF ?aO ?aB ?aS ?aL ?_; (case aP => exact Kd.M_row (Kd.R_lower (Kd.R_tight rfl HR.out) (by have h1 := HB.out.size; omega))); (case aK => exact fun k hk => ⟨by have h1 := HPB.out k hk.symm; omega, fun e => by have h1 := HPB.out k hk.symm; have h2 := HOL.out k e.symm; omega⟩); (case aF => exact fun k hk => by have h1 := HBI.out.size; omega); (case aO => exact HelpII.tII.M_mono (fun k hk => ⟨hk.1, fun e => by have h1 := HPB.out k e.symm; have h2 := hk.2; omega⟩) HSQ.out); (case aB => exact grew_trans HB.out HBI.out); (case aS => exact (grew_trans HB.out HBI.out).size); (case aL => (rw [List.length_map, List.length_take]; omega)); intro v6 w6 hO6 hB6 hg6 hat6; obtain ⟨A6, c6, e6⟩ := Kd.S_slice hO6; rw [show (((keys ls).take j).map (post b ls ls.length) ++ [post b ls ls.length t]).length = j + 1 from by rw [List.length_append, List.length_map, List.length_take, List.length_singleton]; omega] at e6; subst e6; have BK6 := zA (blk_grown (g := gs) BI.out hg6 (fun e => by have h1 := HO.out _ e.symm; have h2 := GSP.out; omega)); obtain ⟨⟨rc0, rf0⟩, ⟨rc1, rf1⟩, ⟨rc2, rf2⟩, ⟨rc3, rf3⟩⟩ := cells4 BK6.out; have HO6 := zA hO6; have HB6 := zA hB6; have HG6 := zA hg6; clear hO6 hB6 hg6 hat6 pc0 pf0 pc1 pf1 pc2 pf2 pc3 pf3)
       have hzq := HK.out.1
       have hzi := HBI.out.size
       go_roundg ((keys ls).length - (j + 1))
       case measure => omega
       case rel =>
        refine ⟨j + 1, A6, c6, zq1, zq1, by go_num, ⟨blk_put (cs := #[.int .i64 b, .slice A1 ls.length c1, .slice (some adk) (keys ls).length c2, .slice Ap j cp]) BK6.out 3 _ rfl⟩, ⟨?_⟩, ⟨fun k hk => (Kd.S_R HO6.out).1 k hk⟩, ⟨?_⟩, ⟨below_set HB6.out (Nat.le_trans HB2.out.size GS.out)⟩⟩
        ·rw [HTK.out]
         exact Ty.M_set (T := HelpII.tII) HO6.out (fun k hk e => by have h1 : wP.heap.size ≤ k := hk; have h2 := GSP.out; omega) _
        ·exact ⟨by have h1 := HG6.out.size; simp [World.setCell]; omega, fun k hk hne => (Below.heap_setCell w6 ⟨gs, 3, none⟩ _ k hne).trans ((HG6.out.block k zq1 (fun e => by have h1 := HO.out _ e.symm; omega)).trans ((HBI.out.block k zq1).trans (HK.out.2 k hk hne)))⟩
    ·have hljz : ¬ (j : Int) < ((keys ls).length : Int) := by omega
     obtain rfl : j = (keys ls).length := by omega
     have hS := HS.out
     rw [List.take_length] at hS
     have HS9 := zA hS
     have BR9 := zA (blk_kept BKgr.out HK.out NEGR.out)
     clear hS HS
     obtain ⟨⟨pc0, pf0⟩, ⟨pc1, pf1⟩, ⟨pc2, pf2⟩, ⟨pc3, pf3⟩⟩ := cells4 HG.out
     obtain ⟨⟨rc0, rf0⟩, ⟨rc1, rf1⟩, ⟨rc2, rf2⟩, ⟨rc3, rf3⟩⟩ := cells4 BR9.out
     have hz9 := HK.out.1
     go_wp2
     refine bodyPost_ret (results_cell_row rfl _ _ gr 59 #[.int .i64 b, .slice A1 ls.length c1, .slice A2 (keys ls).length c2, .slice Ap (keys ls).length cp] (0, 0) _ rfl (by (with_reducible repeat (first | refine blk_drewN ?_ _ | refine blk_drew ?_ | refine blk_alloc ?_ _)); refine blk_put (cs := #[.int .i64 b, .slice A1 ls.length c1, .slice A2 (keys ls).length c2, .slice none 0 0]) ?_ 3 _ rfl; (with_reducible repeat (first | refine blk_drewN ?_ _ | refine blk_drew ?_ | refine blk_alloc ?_ _)); refine blk_put (cs := #[.int .i64 b, .slice A1 ls.length c1, .slice none 0 0, .slice none 0 0]) ?_ 2 _ rfl; (with_reducible repeat (first | refine blk_drewN ?_ _ | refine blk_drew ?_ | refine blk_alloc ?_ _)); refine blk_put (cs := #[.int .i64 b, .slice none 0 0, .slice none 0 0, .slice none 0 0]) ?_ 1 _ rfl; (with_reducible repeat (first | refine blk_drewN ?_ _ | refine blk_drew ?_ | refine blk_alloc ?_ _)); refine blk_put (cs := #[.int .i64 0, .slice none 0 0, .slice none 0 0, .slice none 0 0]) ?_ 0 _ rfl; (with_reducible repeat (first | refine blk_drewN ?_ _ | refine blk_drew ?_ | refine blk_alloc ?_ _)); exact BR9.out) Tryz.underlying59 rfl zq5) rfl ?_
     refine ⟨A1, c1, A2, c2, Ap, cp, rfl, ?_, ?_, ?_, below_set (below_set (below_set (below_set (HB.out) GEgr.out) GEgr.out) GEgr.out) GEgr.out⟩
     ·exact HelpBB.tBB.M_mono (fun _ _ => trivial) ((Ty.M_set (T := HelpBB.tBB) (Ty.M_set (T := HelpBB.tBB) (Ty.M_set (T := HelpBB.tBB) (Ty.M_set (T := HelpBB.tBB) (Ty.M_kept (T := HelpBB.tBB) HC2.out HK.out (fun k hk e => by have h1 := hk.2; omega)) (fun k hk e => by have h1 := hk.1; omega) _) (fun k hk e => by have h1 := hk.1; omega) _) (fun k hk e => by have h1 := hk.1; omega) _) (fun k hk e => by have h1 := hk.1; omega) _))
     ·exact HelpI.tI.M_mono (fun _ _ => trivial) ((Ty.M_set (T := HelpI.tI) (Ty.M_set (T := HelpI.tI) (Ty.M_set (T := HelpI.tI) (Ty.M_set (T := HelpI.tI) (Ty.M_kept (T := HelpI.tI) HR4.out HK.out (fun k hk e => by have h1 := hk.1; omega)) (fun k hk e => by have h1 := hk.1; have h2 := GLgr.out; have h3 := GS.out; have h4 := HB12.out.size; omega) _) (fun k hk e => by have h1 := hk.1; have h2 := GLgr.out; have h3 := GS.out; have h4 := HB12.out.size; omega) _) (fun k hk e => by have h1 := hk.1; have h2 := GLgr.out; have h3 := GS.out; have h4 := HB12.out.size; omega) _) (fun k hk e => by have h1 := hk.1; have h2 := GLgr.out; have h3 := GS.out; have h4 := HB12.out.size; omega) _))
     ·exact HelpII.tII.M_mono (fun _ _ => trivial) ((Ty.M_set (T := HelpII.tII) (Ty.M_set (T := HelpII.tII) (Ty.M_set (T := HelpII.tII) (Ty.M_set (T := HelpII.tII) (HelpII.tII.M_mono (fun _ h => h) HS9.out) (fun k hk e => by have h1 : wP.heap.size ≤ k := hk; have h2 := GSP.out; have h3 := GLgr.out; have h4 := GS.out; have h5 := HB12.out.size; omega) _) (fun k hk e => by have h1 : wP.heap.size ≤ k := hk; have h2 := GSP.out; have h3 := GLgr.out; have h4 := GS.out; have h5 := HB12.out.size; omega) _) (fun k hk e => by have h1 : wP.heap.size ≤ k := hk; have h2 := GSP.out; have h3 := GLgr.out; have h4 := GS.out; have h5 := HB12.out.size; omega) _) (fun k hk e => by have h1 : wP.heap.size ≤ k := hk; have h2 := GSP.out; have h3 := GLgr.out; have h4 := GS.out; have h5 := HB12.out.size; omega) _))
end Go.Proofs.YtmgmdnmfalepkaaGreat.Bld

namespace Go.Proofs.YtmgmdnmfalepkaaGreat.SegS
open Go.RowKit Go.Proofs.YtmgmdnmfalepkaaGreatW.PrintWords Go.Proofs.YtmgmdnmfalepkaaGreatW.PrintMore Go.Proofs.YtmgmdnmfalepkaaGreat.Kit Go.Proofs.YtmgmdnmfalepkaaGreat.PKit Go.Proofs.YtmgmdnmfalepkaaGreat.Ty Go.Proofs.YtmgmdnmfalepkaaGreat.PSeg Go.Proofs.YtmgmdnmfalepkaaGreat.PEnc Go.Proofs.YtmgmdnmfalepkaaGreat.PDec Go.Proofs.YtmgmdnmfalepkaaGreat.PSta Go.Proofs.YtmgmdnmfalepkaaGreat.HelpBB Go.Proofs.YtmgmdnmfalepkaaGreat.HelpSeg
open Go.Proofs.YtmgmdnmfalepkaaGreat.Build hiding code ans
open Go.Proofs.YtmgmdnmfalepkaaGreat.Sto
set_option linter.unusedVariables false
set_option linter.unusedSimpArgs false
theorem below_of_drawn {w w' : World} (h : Drawn0 w w') : Below w.heap.size w w' := by first | exact h.below | exact pw_grow (by first | exact h | exact h.below)
theorem mk_M {w : World} {base : Nat} {b : Int} {ls : List (List Int)} {A1 A2 A3 : Option Addr} {c1 c2 c3 : Nat} (h1 : HelpBB.tBB.M w base (fun _ => True) ls (.slice A1 ls.length c1)) (h2 : HelpI.tI.M w base (fun _ => True) (keys ls) (.slice A2 (keys ls).length c2)) (h3 : HelpII.tII.M w base (fun _ => True) ((keys ls).map (post b ls ls.length)) (.slice A3 (keys ls).length c3)) :
  kSeg.M w base (fun _ => True) (seg b ls) [.int .i64 b, .slice A1 ls.length c1, .slice A2 (keys ls).length c2, .slice A3 (keys ls).length c3] :=
 ⟨[_], [_, _, _], rfl, rfl, [_], [_, _], rfl, ⟨_, rfl, Kd.S_R h1⟩, [_], [_], rfl, ⟨_, rfl, h2⟩, ⟨_, rfl, Kd.S_R h3⟩⟩
theorem zero_M (w : World) (base : Nat) : kSeg.M w base (fun _ => True) (0, [], [], []) [.int .i64 0, .slice none 0 0, .slice none 0 0, .slice none 0 0] :=
 ⟨[_], [_, _, _], rfl, rfl, [_], [_, _], rfl, ⟨_, rfl, Kd.R_nil _ _ _ _ _⟩, [_], [_], rfl, ⟨_, rfl, Kd.R_nil _ _ _ _ _⟩, ⟨_, rfl, Kd.R_nil _ _ _ _ _⟩⟩
theorem bld_good (b : Int) (A : Option Addr) (n c : Nat) (ls : List (List Int)) (hn : n = ls.length) (w : World) (hr : Kd.C kB w A ls.length ls) (hc : ls.length ≤ c) (hb : Bytes ls) (hs : smallBB ls) (hf : fits b ls = true) :
  Calls Tryz.prog 34 #[.int .i64 b, .slice A n c] w fun e w' => ∃ (B1 : Option Addr) (d1 : Nat) (B2 : Option Addr) (d2 : Nat) (B3 : Option Addr) (d3 : Nat), e = .returned (.agg #[.int .i64 b, .slice B1 n d1, .slice B2 (keys ls).length d2, .slice B3 (keys ls).length d3]) ∧ kSeg.M w' w.heap.size (fun _ => True) (seg b ls) [.int .i64 b, .slice B1 n d1, .slice B2 (keys ls).length d2, .slice B3 (keys ls).length d3] ∧ Grew w w' := by
 obtain ⟨f1, f2, f3, f4, f5, f6⟩ := fits_parts hf
 refine (Bld.bld_calls b A n c ls hn w hr hc hb hs f1 f2 zq1).mono ?_
 subst hn
 rintro e w' ⟨A1, c1, A2, c2, A3, c3, rfl, m1, m2, m3, hg⟩
 exact ⟨A1, c1, A2, c2, A3, c3, rfl, mk_M m1 m2 m3, hg⟩
theorem encS_calls (s : SegT) (B1 B2 B3 : Option Addr) (d1 d2 d3 n1 n2 n3 : Nat) (h1 : n1 = s.2.1.length) (h2 : n2 = s.2.2.1.length) (h3 : n3 = s.2.2.2.length) (W : World) (h : kSeg.K W s [.int .i64 s.1, .slice B1 n1 d1, .slice B2 n2 d2, .slice B3 n3 d3]) (hG : Sto.Good s) :
  Calls Tryz.prog 35 #[.agg #[.int .i64 s.1, .slice B1 n1 d1, .slice B2 n2 d2, .slice B3 n3 d3]] W fun e w' => ∃ v', e = .returned v' ∧ Kd.R (Kd.int .u8) 5 w' W.heap.size (fun _ => True) v' (code s) ∧ Grew W w' := by
 subst h1 h2 h3
 obtain ⟨b, ls, K, Ps⟩ := s
 obtain ⟨g1, g2, g3⟩ := hG
 obtain ⟨_, _, e0, hk0, ⟨_, _, e1, ⟨A1, c1, e11, l1, q1⟩, ⟨_, _, e2, ⟨A2, c2, e22, l2, q2⟩, ⟨A3, c3, e33, l3, q3⟩⟩⟩⟩ := h
 subst e11 e22 e33 e2 e1
 cases hk0
 simp only [List.cons_append, List.nil_append, List.cons.injEq, Value.slice.injEq, true_and, and_true] at e0
 obtain ⟨⟨rfl, rfl⟩, ⟨rfl, rfl⟩, rfl, rfl⟩ := e0
 have hok : EncOk (b, ls, K, Ps) := by
  have g1' : (b, ls, K, Ps) = seg b ls := g1
  rw [g1']
  exact encOk_seg g2 g3
 obtain ⟨k, hk⟩ := (encode_ev (b, ls, K, Ps) hok g3).rounds
 exact L.spec_l4encode.calls k b B1 d1 ls B2 d2 K B3 d3 Ps _ W q1 l1 q2 l2 q3 l3 hk
set_option maxRecDepth 100000 in
set_option maxHeartbeats 8000000 in
theorem decS_calls (A : Option Addr) (c : Nat) (b : List Int) (w : World) (hr : Kd.C (Kd.int .u8) w A b.length b) (hc : b.length ≤ c) (hb : ∀ x ∈ b, 0 ≤ x ∧ x ≤ 255) (hl : b.length ≤ 1048576) :
  Calls Tryz.prog 47 #[.slice A b.length c] w fun e w' => ∃ (B1 : Option Addr) (d1 : Nat) (B2 : Option Addr) (d2 : Nat) (B3 : Option Addr) (d3 : Nat), e = .returned (.tuple #[.agg #[.int .i64 (dec b).1.1, .slice B1 (dec b).1.2.1.length d1, .slice B2 (dec b).1.2.2.1.length d2, .slice B3 (dec b).1.2.2.2.length d3], .int .i64 (dec b).2]) ∧ kSeg.M w' w.heap.size (fun _ => True) (dec b).1 [.int .i64 (dec b).1.1, .slice B1 (dec b).1.2.1.length d1, .slice B2 (dec b).1.2.2.1.length d2, .slice B3 (dec b).1.2.2.2.length d3] ∧ Grew w w' := by
 have huI := Tryz.underlying59
 have HR := zA hr
 have HC := zA hc
 have HY := zA hb
 obtain ⟨kl, hkl⟩ := (lines_ev b hb hl).rounds
 clear hr hc hb
 cases hP : specP b with
 | none =>
  rw [hP] at hkl
  have HL := zA (fun (W : World) (hW : Below w.heap.size w W) => L.spec_l4lines.calls kl A c b _ _ _ W (Kd.C_below HR.out hW) HC.out hkl)
  have HP := zA hP
  clear hP hkl
  go_enter Tryz.func47, Tryz.ntmps47
  go_wp2_with (((with_reducible refine gate_dst (N := 2) rfl ?_); refine box_event ?hg (N := 2) ?hd (cs := #[.int .i64 0, .slice none 0 0, .slice none 0 0, .slice none 0 0]) (t := 59) ?hr ?_; (case hd => rfl); (case hg => rfl); (case hr => first | (go_simp; done) | (go_simp; rfl)); intro gr hg_ w1 hbx hbb; have BKgr := zA hbx; have GEgr := zA (show w.heap.size ≤ gr from Nat.le_of_eq hg_.symm); have GLgr := zA (blk_lt hbx); have HBw1 := zA hbb; clear hg_ hbb; obtain ⟨⟨hgrc0, hgrf0⟩, ⟨hgrc1, hgrf1⟩, ⟨hgrc2, hgrf2⟩, ⟨hgrc3, hgrf3⟩⟩ := cells4 hbx; clear hbx))
  go_at_call 67
  refine (HL.out _ HBw1.out).mono ?_
  rintro e w2 ⟨v2, rfl, hS2, hb2⟩
  obtain ⟨A1, c1, rfl⟩ := Kd.S_slice hS2
  have BK2 := zA (blk_below BKgr.out hb2)
  have HB2 := zA (show Below w.heap.size w w2 from grew_trans HBw1.out hb2)
  obtain ⟨⟨s0, sf0⟩, ⟨s1, sf1⟩, ⟨s2, sf2⟩, ⟨s3, sf3⟩⟩ := cells4 BK2.out
  clear hS2 hb2
  go_wp2
  refine bodyPost_ret (results_ct rfl _ _ gr 59 #[.int .i64 0, .slice none 0 0, .slice none 0 0, .slice none 0 0] (0, 0) _ rfl (by (with_reducible repeat (first | refine blk_drewN ?_ _ | refine blk_drew ?_ | refine blk_alloc ?_ _)); refine blk_put (cs := #[.int .i64 0, .slice none 0 0, .slice none 0 0, .slice none 0 0]) ?_ 3 _ rfl; (with_reducible repeat (first | refine blk_drewN ?_ _ | refine blk_drew ?_ | refine blk_alloc ?_ _)); refine blk_put (cs := #[.int .i64 0, .slice none 0 0, .slice none 0 0, .slice none 0 0]) ?_ 2 _ rfl; (with_reducible repeat (first | refine blk_drewN ?_ _ | refine blk_drew ?_ | refine blk_alloc ?_ _)); refine blk_put (cs := #[.int .i64 0, .slice none 0 0, .slice none 0 0, .slice none 0 0]) ?_ 1 _ rfl; (with_reducible repeat (first | refine blk_drewN ?_ _ | refine blk_drew ?_ | refine blk_alloc ?_ _)); refine blk_put (cs := #[.int .i64 0, .slice none 0 0, .slice none 0 0, .slice none 0 0]) ?_ 0 _ rfl; (with_reducible repeat (first | refine blk_drewN ?_ _ | refine blk_drew ?_ | refine blk_alloc ?_ _)); exact BK2.out) Tryz.underlying59 rfl zq5) rfl ?_
  rw [show dec b = ((0, [], [], []), 5) from by rw [dec_spec]; unfold decBy; rw [HP.out]]
  exact ⟨none, 0, none, 0, none, 0, rfl, zero_M _ _, below_set (below_set (below_set (below_set (HB2.out) GEgr.out) GEgr.out) GEgr.out) GEgr.out⟩
 | some q =>
  obtain ⟨base, ls⟩ := q
  rw [hP] at hkl
  have HL := zA (fun (W : World) (hW : Below w.heap.size w W) => L.spec_l4lines.calls kl A c b _ _ _ W (Kd.C_below HR.out hW) HC.out hkl)
  have hh : rdHead 4 (b.drop 2) = some (base, ls) := by
   unfold specP at hP
   by_cases h2 : b.length < 2
   ·rw [if_pos h2] at hP; cases hP
   ·rwa [if_neg h2] at hP
  obtain ⟨b0, b1, l1, l2, l3⟩ := rdHead_some 4 (b.drop 2) base ls (bytes_drop HY.out 2) hh
  rw [List.length_drop] at l2
  have hs : smallBB ls := by show ls.length + totalB ls ≤ 1048576; omega
  obtain ⟨kf, hkf⟩ := (fits_ev base ls hs).rounds
  have HP := zA hP
  have HSM := zA hs
  have HLY := zA l3
  clear hP hkl hh b0 b1 l2 l3 hs
  go_enter Tryz.func47, Tryz.ntmps47
  go_wp2_with (((with_reducible refine gate_dst (N := 2) rfl ?_); refine box_event ?hg (N := 2) ?hd (cs := #[.int .i64 0, .slice none 0 0, .slice none 0 0, .slice none 0 0]) (t := 59) ?hr ?_; (case hd => rfl); (case hg => rfl); (case hr => first | (go_simp; done) | (go_simp; rfl)); intro gr hg_ w1 hbx hbb; have BKgr := zA hbx; have GEgr := zA (show w.heap.size ≤ gr from Nat.le_of_eq hg_.symm); have GLgr := zA (blk_lt hbx); have HBw1 := zA hbb; clear hg_ hbb; obtain ⟨⟨hgrc0, hgrf0⟩, ⟨hgrc1, hgrf1⟩, ⟨hgrc2, hgrf2⟩, ⟨hgrc3, hgrf3⟩⟩ := cells4 hbx; clear hbx))
  go_at_call 67
  refine (HL.out _ HBw1.out).mono ?_
  rintro e w2 ⟨v2, rfl, hS2, hb2⟩
  obtain ⟨A1, c1, rfl⟩ := Kd.S_slice hS2
  have BK2 := zA (blk_below BKgr.out hb2)
  have HB2 := zA (show Below w.heap.size w w2 from grew_trans HBw1.out hb2)
  have HGR := zA (show gr < w2.heap.size from blk_lt BK2.out)
  obtain ⟨_, hc2, hC2⟩ := Kd.S_reads' hS2
  have HF := zA (fun (W : World) (hW : Below w2.heap.size w2 W) => L.spec_l4fits.calls kf base A1 c1 ls _ W (Kd.C_below hC2 hW) hc2 hkf)
  have HC2 := zA hC2
  have HCC := zA hc2
  clear hS2 hb2 hC2 hc2 hkf hgrc0 hgrf0 hgrc1 hgrf1 hgrc2 hgrf2 hgrc3 hgrf3
  cases hft : fits base ls with
  | false =>
   rw [hft] at HF
   have HFT := zA hft
   clear hft
   go_wp2_with (go_at_call 68; refine (HF.out _ zq3).mono ?_; rintro e w3 ⟨rfl, hd3⟩; have HB3 := zA (grew_trans HB2.out (grew_trans zq3 (below_of_drawn hd3))); have BK3 := zA (blk_below BK2.out (grew_trans zq3 (below_of_drawn hd3))); obtain ⟨⟨s0, sf0⟩, ⟨s1, sf1⟩, ⟨s2, sf2⟩, ⟨s3, sf3⟩⟩ := cells4 BK3.out; clear hd3)
   refine bodyPost_ret (results_ct rfl _ _ gr 59 #[.int .i64 0, .slice none 0 0, .slice none 0 0, .slice none 0 0] (0, 0) _ rfl (by (with_reducible repeat (first | refine blk_drewN ?_ _ | refine blk_drew ?_ | refine blk_alloc ?_ _)); refine blk_put (cs := #[.int .i64 0, .slice none 0 0, .slice none 0 0, .slice none 0 0]) ?_ 3 _ rfl; (with_reducible repeat (first | refine blk_drewN ?_ _ | refine blk_drew ?_ | refine blk_alloc ?_ _)); refine blk_put (cs := #[.int .i64 0, .slice none 0 0, .slice none 0 0, .slice none 0 0]) ?_ 2 _ rfl; (with_reducible repeat (first | refine blk_drewN ?_ _ | refine blk_drew ?_ | refine blk_alloc ?_ _)); refine blk_put (cs := #[.int .i64 0, .slice none 0 0, .slice none 0 0, .slice none 0 0]) ?_ 1 _ rfl; (with_reducible repeat (first | refine blk_drewN ?_ _ | refine blk_drew ?_ | refine blk_alloc ?_ _)); refine blk_put (cs := #[.int .i64 0, .slice none 0 0, .slice none 0 0, .slice none 0 0]) ?_ 0 _ rfl; (with_reducible repeat (first | refine blk_drewN ?_ _ | refine blk_drew ?_ | refine blk_alloc ?_ _)); exact BK3.out) Tryz.underlying59 rfl zq5) rfl ?_
   rw [show dec b = ((0, [], [], []), 5) from by rw [dec_spec]; unfold decBy; rw [HP.out]; simp only; rw [HFT.out]; rfl]
   exact ⟨none, 0, none, 0, none, 0, rfl, zero_M _ _, below_set (below_set (below_set (below_set (HB3.out) GEgr.out) GEgr.out) GEgr.out) GEgr.out⟩
  | true =>
   rw [hft] at HF
   have HFT := zA hft
   have HBL := zA (fun (W : World) (hW : Below w2.heap.size w2 W) => bld_good base A1 ls.length c1 ls rfl W (Kd.C_below HC2.out hW) HCC.out HLY.out HSM.out hft)
   clear hft
   go_wp2_with (first | (go_at_call 68; refine (HF.out _ zq3).mono ?_; rintro e w3 ⟨rfl, hd3⟩; have HB3 := zA (show Below w2.heap.size w2 w3 from grew_trans zq3 (below_of_drawn hd3)); clear hd3) | (go_at_call 34; refine (HBL.out _ HB3.out).mono ?_; rintro e w4 ⟨B1, d1, B2, d2, B3, d3, rfl, hM4, hb4⟩; have HB4 := zA (show Below w2.heap.size w2 w4 from grew_trans HB3.out hb4); have HM4 := zA (show kSeg.M w4 w2.heap.size (fun _ => True) (seg base ls) [.int .i64 base, .slice B1 ls.length d1, .slice B2 (keys ls).length d2, .slice B3 (keys ls).length d3] from kSeg.M_lower HB3.out.size hM4); obtain ⟨⟨x0, xf0⟩, ⟨x1, xf1⟩, ⟨x2, xf2⟩, ⟨x3, xf3⟩⟩ := cells4 (blk_new w4 (.cells #[.int .i64 base, .slice B1 ls.length d1, .slice B2 (keys ls).length d2, .slice B3 (keys ls).length d3] 59 (0, 0))); clear hM4 hb4))
   obtain ⟨gq, hgq⟩ : ∃ g_, g_ = w4.heap.size := ⟨_, rfl⟩
   obtain ⟨w5, hw5⟩ : ∃ w_, w_ = w4.alloc (.cells #[.int .i64 base, .slice B1 ls.length d1, .slice B2 (keys ls).length d2, .slice B3 (keys ls).length d3] 59 (0, 0)) := ⟨_, rfl⟩
   rw [← hw5, ← hgq] at x0 xf0 x1 xf1 x2 xf2 x3 xf3
   rw [← hw5, ← hgq]
   have BKgq := zA (show w5.heap[gq]? = some (.cells #[.int .i64 base, .slice B1 ls.length d1, .slice B2 (keys ls).length d2, .slice B3 (keys ls).length d3] 59 (0, 0)) from by rw [hw5, hgq]; exact blk_new w4 _)
   have hb5 : Below w4.heap.size w4 w5 := by rw [hw5]; exact below_alloc (Below.refl _ _) _
   have HB5 := zA (show Below w2.heap.size w2 w5 from grew_trans HB4.out hb5)
   have HM5 := zA (Kd.M_below HM4.out hb5)
   clear hgq hw5 hb5
   have HEN := encS_calls (seg base ls) B1 B2 B3 d1 d2 d3 ls.length (keys ls).length (keys ls).length rfl rfl (List.length_map ..).symm w5 (kSeg.K_of_M HM5.out) ⟨rfl, HFT.out, HLY.out⟩
   go_at_call 35
   refine HEN.mono ?_
   rintro e w6 ⟨v6, rfl, hM6, hb6⟩
   obtain ⟨A6, c6, rfl⟩ := Kd.R_slice hM6
   have hsame := same_bytes (code (seg base ls)) b (code_bytes (s := seg base ls) HLY.out) HY.out
   obtain ⟨_, hc6, hC6⟩ := Kd.R_reads' hM6
   have HSB := zA (fun (W : World) (hW : Below w6.heap.size w6 W) => L.spec_l4sameBytes.calls A6 c6 (code (seg base ls)) A c b (decide (code (seg base ls) = b)) W (Kd.C_below hC6 hW) hc6 (Kd.C_below HR.out (grew_trans HB2.out (grew_trans HB5.out (grew_trans hb6 hW)))) HC.out (by show some _ = some _; rw [hsame]))
   have HB6 := zA (show Below w2.heap.size w2 w6 from grew_trans HB5.out hb6)
   have BK6 := zA (blk_below BKgq.out hb6)
   have HM6 := zA (Kd.M_below HM5.out hb6)
   have hcl : (code (seg base ls)).length ≤ 9223372036854775807 := hC6.2.1
   clear hM6 hb6 hC6 hc6 hsame HEN x0 xf0 x1 xf1 x2 xf2 x3 xf3
   by_cases hcd : code (seg base ls) = b
   case neg =>
    rw [decide_eq_false hcd] at HSB
    have HCD := zA hcd
    clear hcd
    go_wp2_with (go_at_call 69; refine (HSB.out _ zq3).mono ?_; rintro e w7 ⟨rfl, hd7⟩; have HB7 := zA (show Below w2.heap.size w2 w7 from grew_trans HB6.out (grew_trans zq3 (below_of_drawn hd7))); have BK7 := zA (blk_below BK2.out HB7.out); obtain ⟨⟨s0, sf0⟩, ⟨s1, sf1⟩, ⟨s2, sf2⟩, ⟨s3, sf3⟩⟩ := cells4 BK7.out; clear hd7)
    refine bodyPost_ret (results_ct rfl _ _ gr 59 #[.int .i64 0, .slice none 0 0, .slice none 0 0, .slice none 0 0] (0, 0) _ rfl (by (with_reducible repeat (first | refine blk_drewN ?_ _ | refine blk_drew ?_ | refine blk_alloc ?_ _)); refine blk_put (cs := #[.int .i64 0, .slice none 0 0, .slice none 0 0, .slice none 0 0]) ?_ 3 _ rfl; (with_reducible repeat (first | refine blk_drewN ?_ _ | refine blk_drew ?_ | refine blk_alloc ?_ _)); refine blk_put (cs := #[.int .i64 0, .slice none 0 0, .slice none 0 0, .slice none 0 0]) ?_ 2 _ rfl; (with_reducible repeat (first | refine blk_drewN ?_ _ | refine blk_drew ?_ | refine blk_alloc ?_ _)); refine blk_put (cs := #[.int .i64 0, .slice none 0 0, .slice none 0 0, .slice none 0 0]) ?_ 1 _ rfl; (with_reducible repeat (first | refine blk_drewN ?_ _ | refine blk_drew ?_ | refine blk_alloc ?_ _)); refine blk_put (cs := #[.int .i64 0, .slice none 0 0, .slice none 0 0, .slice none 0 0]) ?_ 0 _ rfl; (with_reducible repeat (first | refine blk_drewN ?_ _ | refine blk_drew ?_ | refine blk_alloc ?_ _)); exact BK7.out) Tryz.underlying59 rfl zq5) rfl ?_
    rw [show dec b = ((0, [], [], []), 5) from by rw [dec_spec]; unfold decBy; rw [HP.out]; simp only; rw [if_neg (fun h => HCD.out h.2)]]
    exact ⟨none, 0, none, 0, none, 0, rfl, zero_M _ _, below_set (below_set (below_set (below_set ((grew_trans HB2.out HB7.out)) GEgr.out) GEgr.out) GEgr.out) GEgr.out⟩
   case pos =>
    rw [decide_eq_true hcd] at HSB
    have HD := zA (show dec b = (seg base ls, 0) from by rw [dec_spec]; unfold decBy; rw [HP.out]; simp only; rw [if_pos ⟨HFT.out, hcd⟩])
    clear hcd
    go_wp2_with (go_at_call 69; refine (HSB.out _ zq3).mono ?_; rintro e w7 ⟨rfl, hd7⟩; have hb7_ := grew_trans zq3 (below_of_drawn hd7); have HB7 := zA (show Below w2.heap.size w2 w7 from grew_trans HB6.out hb7_); have HM7 := zA (show kSeg.M w7 w2.heap.size (fun _ => True) (seg base ls) [.int .i64 base, .slice B1 ls.length d1, .slice B2 (keys ls).length d2, .slice B3 (keys ls).length d3] from Kd.M_below HM6.out hb7_); have BKq7 := zA (blk_below BK6.out hb7_); have BK7 := zA (blk_below BK2.out HB7.out); obtain ⟨⟨s0, sf0⟩, ⟨s1, sf1⟩, ⟨s2, sf2⟩, ⟨s3, sf3⟩⟩ := cells4 BK7.out; obtain ⟨⟨y0, yf0⟩, ⟨y1, yf1⟩, ⟨y2, yf2⟩, ⟨y3, yf3⟩⟩ := cells4 BKq7.out; clear hd7 hb7_)
    refine bodyPost_ret (results_ct rfl _ _ gr 59 #[.int .i64 base, .slice B1 ls.length d1, .slice B2 (keys ls).length d2, .slice B3 (keys ls).length d3] (0, 0) _ rfl (by (with_reducible repeat (first | refine blk_drewN ?_ _ | refine blk_drew ?_ | refine blk_alloc ?_ _)); refine blk_put (cs := #[.int .i64 base, .slice B1 ls.length d1, .slice B2 (keys ls).length d2, .slice none 0 0]) ?_ 3 _ rfl; (with_reducible repeat (first | refine blk_drewN ?_ _ | refine blk_drew ?_ | refine blk_alloc ?_ _)); refine blk_put (cs := #[.int .i64 base, .slice B1 ls.length d1, .slice none 0 0, .slice none 0 0]) ?_ 2 _ rfl; (with_reducible repeat (first | refine blk_drewN ?_ _ | refine blk_drew ?_ | refine blk_alloc ?_ _)); refine blk_put (cs := #[.int .i64 base, .slice none 0 0, .slice none 0 0, .slice none 0 0]) ?_ 1 _ rfl; (with_reducible repeat (first | refine blk_drewN ?_ _ | refine blk_drew ?_ | refine blk_alloc ?_ _)); refine blk_put (cs := #[.int .i64 0, .slice none 0 0, .slice none 0 0, .slice none 0 0]) ?_ 0 _ rfl; (with_reducible repeat (first | refine blk_drewN ?_ _ | refine blk_drew ?_ | refine blk_alloc ?_ _)); exact BK7.out) Tryz.underlying59 rfl zq5) rfl ?_
    rw [HD.out]
    have e3 : (seg base ls).2.2.2.length = (keys ls).length := List.length_map ..
    refine ⟨B1, d1, B2, d2, B3, d3, by rw [e3]; rfl, ?_, below_set (below_set (below_set (below_set ((grew_trans HB2.out HB7.out)) GEgr.out) GEgr.out) GEgr.out) GEgr.out⟩
    rw [e3]
    exact kSeg.M_mono (fun _ _ => trivial) (Kd.M_far (d := kSeg) (Kd.M_far (d := kSeg) (Kd.M_far (d := kSeg) (Kd.M_far (d := kSeg) (kSeg.M_lower HB2.out.size (kSeg.M_mono (ok' := fun k => w2.heap.size ≤ k) (fun k hk => hk.2.1) (kSeg.M_bound HM7.out))) (p := ⟨_, 0, none⟩) (fun k hk => by show k ≠ gr; have h1 : w2.heap.size ≤ k := hk; have h2 := HGR.out; omega) _) (p := ⟨_, 1, none⟩) (fun k hk => by show k ≠ gr; have h1 : w2.heap.size ≤ k := hk; have h2 := HGR.out; omega) _) (p := ⟨_, 2, none⟩) (fun k hk => by show k ≠ gr; have h1 : w2.heap.size ≤ k := hk; have h2 := HGR.out; omega) _) (p := ⟨_, 3, none⟩) (fun k hk => by show k ≠ gr; have h1 : w2.heap.size ≤ k := hk; have h2 := HGR.out; omega) _)
end Go.Proofs.YtmgmdnmfalepkaaGreat.SegS
