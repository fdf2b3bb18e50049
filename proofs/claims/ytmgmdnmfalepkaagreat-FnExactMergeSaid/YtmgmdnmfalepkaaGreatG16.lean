/- Parts of the proof (see the row's own text): StoB, StoC, Far, MrgS. -/
import Derived.Test.YtmgmdnmfalepkaaGreatG00
import Derived.Test.YtmgmdnmfalepkaaGreatG15
import Derived.Test.YtmgmdnmfalepkaaGreatG11
import Derived.Lib.AppendZerosOnto
import Derived.Lib.SliceRun
import Derived.Test.YtmgmdnmfalepkaaGreatG12
import Derived.Test.YtmgmdnmfalepkaaGreatG8
import Derived.Test.YtmgmdnmfalepkaaGreatG7
namespace Go.Proofs.YtmgmdnmfalepkaaGreat.Sto
open Go.RowKit Go.Proofs.YtmgmdnmfalepkaaGreatW.PrintWords Go.Proofs.YtmgmdnmfalepkaaGreatW.PrintMore Go.Proofs.YtmgmdnmfalepkaaGreat.Kit Go.Proofs.YtmgmdnmfalepkaaGreat.PKit Go.Proofs.YtmgmdnmfalepkaaGreat.Ty Go.Proofs.YtmgmdnmfalepkaaGreat.PSeg Go.Proofs.YtmgmdnmfalepkaaGreat.PEnc Go.Proofs.YtmgmdnmfalepkaaGreat.PDec Go.Proofs.YtmgmdnmfalepkaaGreat.PSta Go.Proofs.YtmgmdnmfalepkaaGreat.HelpBB Go.Proofs.YtmgmdnmfalepkaaGreat.HelpSeg
open Go.Proofs.YtmgmdnmfalepkaaGreat.Build hiding code ans
set_option linter.unusedVariables false
set_option linter.unusedSimpArgs false
theorem dec_bytes {b : List Int} (hb : ∀ x ∈ b, 0 ≤ x ∧ x ≤ 255) (h : (dec b).2 = 0) : Bytes (dec b).1.2.1 := by
 rcases decBy_or implP b with ⟨base, ls, h1, h2, h3, h4⟩ | h4
 ·have e : dec b = (seg base ls, 0) := h4
  rw [e]
  exact (Decode.implP_some hb h3).2.2.2.2
 ·have e : dec b = ((0, [], [], []), 5) := h4
  rw [e] at h
  cases h
theorem chain_good {base : Int} {ss : List SegT} {bs : List (List Int)} (h : Chain base ss bs) (hb : Bytes bs) : ∀ s ∈ ss, Good s := by
 induction h with
 | nil base => intro s hs; cases hs
 | cons h t ih =>
  intro s' hs'
  rcases List.mem_cons.1 hs' with rfl | hs'
  ·obtain ⟨h1, h2, h3, h4, h5⟩ := h
   have h6 := dec_bytes (hb _ List.mem_cons_self) (by rw [h5])
   rw [h5] at h6
   exact ⟨h3, h2, h6⟩
  ·exact ih (fun l hl => hb l (List.mem_cons_of_mem _ hl)) s' hs'
def Got (w w' : World) (st : StaT) (e : Ending) : Prop := match segsOf st with
 | none => e = .returned (.tuple #[.pointer none, .bool false])
 | some ss => ∃ (g : Nat) (Av : Option Addr) (cv : Nat) (Ao : Option Addr) (co N : Nat), e = .returned (.tuple #[.pointer (some ⟨g, 0, none⟩), .bool true]) ∧ w'.heap[g]? = some (.cells #[.slice Av ss.length cv, .slice Ao st.2.length co] 79 (0, 0)) ∧ w.heap.size ≤ g ∧ g < N ∧ N ≤ w'.heap.size ∧ Kd.R kSeg 59 w' w.heap.size (fun k => g < k ∧ k < N) (.slice Av ss.length cv) ss ∧ Kd.S kB 25 w' w.heap.size (fun k => N ≤ k) (.slice Ao st.2.length co) st.2
theorem got_none {w w' : World} {st : StaT} {e : Ending} (h : segsOf st = none) (he : e = .returned (.tuple #[.pointer none, .bool false])) : Got w w' st e := by
 unfold Got; rw [h]; exact he
theorem one_pred (ls : List (List Int)) (w : World) (hb : Bytes ls) : PredK Tryz.prog kB 72 #[] (fun l => decide (10 ∈ l)) ls w := by
 rintro W x u hx hW ⟨A, c, e, hl, hr⟩
 obtain rfl : u = .slice A x.length c := by injection e
 have hone := one_calls A c x W hr hl (hb x hx)
 have hd : decide (10 ∈ x) = !decide (10 ∉ x) := by by_cases h : 10 ∈ x <;> simp [h]
 show Calls Tryz.prog 72 #[.slice A x.length c] W (fun e w' => e = .returned (.bool (decide (10 ∈ x))) ∧ Grew W w')
 rw [hd]
 generalize decide (10 ∉ x) = q at hone
 go_enter Tryz.func72, Tryz.ntmps72
 go_wp2_with (go_at_call 73; refine hone.mono ?_; rintro e w' ⟨rfl, rfl⟩)
 go_ret
 exact ⟨rfl, Below.refl _ _⟩
theorem any_plain (ls : List (List Int)) : (ls.any fun l => decide (10 ∈ l)) = !plain ls := by
 unfold plain
 rw [List.not_all_eq_any_not]
 congr 1
 funext l
 by_cases h : 10 ∈ l <;> simp [h]
set_option maxRecDepth 100000 in
set_option maxHeartbeats 8000000 in
theorem storeOf_calls (st : StaT) (A0 A1 : Option Addr) (c0 c1 : Nat) (w : World) (h0 : Kd.C kB w A0 st.1.length st.1) (l0 : st.1.length ≤ c0) (h1 : Kd.C kB w A1 st.2.length st.2) (l1 : st.2.length ≤ c1) (hb0 : Bytes st.1) (hb1 : Bytes st.2) (s0 : smallBB st.1) (s1 : smallBB st.2) :
  Calls Tryz.prog 49 #[.agg #[.slice A0 st.1.length c0, .slice A1 st.2.length c1]] w fun e w' => Got w w' st e ∧ Grew w w' := by
 have huS := Tryz.underlying79
 have huI := Tryz.underlying59
 have huT := Tryz.underlying27
 have q0 : st.1.length + totalB st.1 ≤ 1048576 := s0
 have q1 : st.2.length + totalB st.2 ≤ 1048576 := s1
 have H0 := zA h0
 have H1 := zA h1
 have HY0 := zA hb0
 have HY1 := zA hb1
 have htt := fun (W : World) (hW : Below w.heap.size w W) => total_calls A1 c1 st.2 W (Kd.C_below H1.out hW) l1 s1
 have HTT := zA htt
 have HCP := zA (fun (W : World) (hW : Below w.heap.size w W) => copy_calls A1 c1 st.2 W (Kd.C_below H1.out hW) l1 s1)
 have eg := enters_of Tryz.func72 zq5 rfl
 have hct := fun (W : World) (hW : Below w.heap.size w W) => IdxBB.contains_calls kB rfl [] (fun l => decide (10 ∈ l)) 72 #[] eg A1 c1 st.2 W (Kd.C_below H1.out hW) (one_pred st.2 W hb1)
 rw [any_plain] at hct
 have HCT := zA hct
 clear h0 h1 hb0 hb1 htt hct eg s0 s1
 go_enter Tryz.func49, Tryz.ntmps49
 go_wp2_with (first | ((with_reducible refine gate_dst (N := 1) rfl ?_); refine box_event ?hg (N := 1) ?hd (cs := #[.slice A0 st.1.length c0, .slice A1 st.2.length c1]) (t := 27) ?hr ?_; (case hd => rfl); (case hg => rfl); (case hr => first | (go_simp; done) | (go_simp; rfl)); intro gp hg_ w1 hbx hbb; have BKgp := zA hbx; have GEgp := zA (show w.heap.size ≤ gp from Nat.le_of_eq hg_.symm); have GLgp := zA (blk_lt hbx); have HBw1 := zA hbb; clear hg_ hbb; obtain ⟨⟨hgpc0, hgpf0⟩, ⟨hgpc1, hgpf1⟩⟩ := cells2 hbx; clear hbx) | ((with_reducible refine gate_dst (N := 12) rfl ?_); refine box_event ?hg (N := 12) ?hd (cs := #[.slice none 0 0, .slice none 0 0]) (t := 79) ?hr ?_; (case hd => rfl); (case hg => rfl); (case hr => first | (go_simp; done) | (go_simp; rfl)); intro gs hg_ w2 hbx hbb; have BKgs := zA hbx; have GEgs := zA (show w1.heap.size ≤ gs from Nat.le_of_eq hg_.symm); have GLgs := zA (blk_lt hbx); have HBw2 := zA hbb; clear hg_ hbb; obtain ⟨⟨hgsc0, hgsf0⟩, ⟨hgsc1, hgsf1⟩⟩ := cells2 hbx; clear hbx; have BKp_ := zA (blk_below BKgp.out HBw2.out); clear BKgp hgpc0 hgpf0 hgpc1 hgpf1; have BKgp := BKp_; clear BKp_; obtain ⟨⟨pc0, pf0⟩, ⟨pc1, pf1⟩⟩ := cells2 BKgp.out))
 have HG2 := zA (show Below w.heap.size w w2 from grew_trans HBw1.out HBw2.out)
 go_at_call 54
 refine (HTT.out _ HG2.out).mono ?_
 rintro e w3 ⟨rfl, hw3⟩
 subst hw3
 go_wp2_with fail
 have HB3 := zA HG2.out
 have GSL := zA (blk_lt BKgs.out)
 have GPL := zA (blk_lt BKgp.out)
 have NEP := zA (show gp ≠ gs from fun e => by have h1 := GLgp.out; have h2 := GEgs.out; omega)
 clear HG2 hgsc0 hgsf0 hgsc1 hgsf1 pc0 pf0 pc1 pf1
 go_loopg [5, 6, 19] st.1.length (fun gg s5 s6 s19 wr => ∃ (i : Nat) (acc : List SegT) (Ap : Option Addr) (cp : Nat), i ≤ st.1.length ∧ st.1.length - i ≤ gg ∧ s19 = .int .i64 (i : Int) ∧ s5 = .int .i64 ((nlin acc : Nat) : Int) ∧ s6 = .int .i64 (((tots acc : Nat) : Int) + (totalB st.2 : Int)) ∧ Aside0 (Chain 0 acc (st.1.take i)) ∧ Aside0 (wr.heap[gs]? = some (.cells #[.slice Ap i cp, .slice none 0 0] 79 (0, 0))) ∧ Aside0 (Kd.R kSeg 59 wr w.heap.size (fun k => w3.heap.size ≤ k) (.slice Ap i cp) acc) ∧ Aside0 (∀ k, (Value.slice Ap i cp).ownBlock = some k → w3.heap.size ≤ k) ∧ Aside0 (Kept w3 wr (fun k => k = gs)) ∧ Aside0 (Below w.heap.size w wr))
 case atStart => exact ⟨0, [], none, 0, zq1, zq1, rfl, rfl, by simp [tots], ⟨.nil 0⟩, BKgs, ⟨Kd.R_nil _ _ _ _ _⟩, ⟨fun k hk => by simp [Value.ownBlock] at hk⟩, ⟨Kept.refl _ _⟩, HB3⟩
 case round =>
  obtain ⟨i, acc, Ap, cp, hi, hgg, rfl, rfl, rfl, HC, HG, HR, HOW, HK, HB⟩ := hrel
  obtain ⟨n1, n2, n3⟩ := chain_len0 HC.out
  have n4 : acc.length = i := by have h := chain_len HC.out; rw [List.length_take] at h; omega
  have HN4 := zA n4
  clear n4
  by_cases hlt : i < st.1.length
  ·have hltz : (i : Int) < (st.1.length : Int) := by omega
   obtain ⟨ad, u, rfl, hcell0, hK⟩ := get_one (d := kB) rfl H0.out [] i hlt
   obtain ⟨A', c', e', hc', hr'⟩ := hK
   obtain rfl : u = .slice A' (st.1.getD i []).length c' := by injection e'
   have hcell : wr.cell? (ad.add i) = some (.slice A' (st.1.getD i []).length c') := (HB.out.cell (World.block_lt_of_cell? w _ hcell0)).trans hcell0
   have hgl := getD_len st.1 i
   have HBY := zA (getD_bytes HY0.out i)
   have HDE := zA (fun (W : World) (hW : Below w.heap.size w W) => Decode.decode_calls A' c' (st.1.getD i []) W (Kd.C_below hr' hW) hc' HBY.out zq1)
   have HST := zA (fun h => segs_stop (st := st) HC.out hlt h)
   have HNX := zA (fun h0 h1 => segs_next (st := st) HC.out hlt h0 h1)
   clear e' hr' hcell0 hgl
   generalize st.1.getD i [] = b at hcell hc' HDE HST HNX HBY
   go_wp2_with fail
   go_at_call 70
   refine (HDE.out _ HB.out).mono ?_
   rintro e w5 ⟨v5, rfl, hM5, hb5⟩
   obtain ⟨B1, d1, B2, d2, B3, d3, rfl, hK5⟩ := kSeg_mk hM5
   have HFS := zA (fun h => (dec_at (b := b) h).2.1)
   have HM5 := zA hK5
   have HB5 := zA hb5
   clear hM5 hK5 hb5
   generalize (dec b).1 = s at HM5 HST HNX HFS
   generalize (dec b).2 = cd at HST HNX HFS
   obtain ⟨⟨x0, x0f⟩, ⟨x1, x1f⟩, ⟨x2, x2f⟩, ⟨x3, x3f⟩⟩ := cells4 (blk_new w5 (.cells #[.int .i64 s.1, .slice B1 s.2.1.length d1, .slice B2 s.2.2.1.length d2, .slice B3 s.2.2.2.length d3] 59 (0, 0)))
   by_cases hgood : cd = 0 ∧ s.1 = ((nlin acc : Nat) : Int)
   case neg =>
    have hno := HST.out hgood
    have HNO := zA hno
    clear hno
    by_cases hcd : cd = 0
    ·subst hcd
     have hne : (s.1 != ((nlin acc : Nat) : Int)) = true := by simp; intro e; exact hgood ⟨rfl, e⟩
     clear hgood
     go_wp2
     go_ret2
     exact ⟨got_none HNO.out rfl, by have h1 := HB.out; have h2 := HB5.out; refine grew_trans (grew_trans h1 h2) ?_; repeat (first | exact Below.refl _ _ | apply below_alloc | apply below_drew1 | apply pw_below_drewN)⟩
    ·have hne : (cd != 0) = true := by simpa using hcd
     clear hgood hcd
     go_wp2
     go_ret2
     exact ⟨got_none HNO.out rfl, by have h1 := HB.out; have h2 := HB5.out; refine grew_trans (grew_trans h1 h2) ?_; repeat (first | exact Below.refl _ _ | apply below_alloc | apply below_drew1 | apply pw_below_drewN)⟩
   case pos =>
    obtain ⟨hcd, hs1⟩ := hgood
    subst hcd
    have HS1 := zA hs1
    have HCN := zA (HNX.out rfl hs1)
    obtain ⟨f1, f2, f3, f4, f5, f6⟩ := fits_parts (HFS.out rfl)
    have hne : (s.1 != ((nlin acc : Nat) : Int)) = false := by simp [hs1]
    have f7 : s.2.1.length ≤ 1000 := by omega
    clear HST HNX HFS hs1 f1 f2 f3 f4 f5
    go_wp2_with fail
    obtain ⟨gq, hgq⟩ : ∃ g_, g_ = w5.heap.size := ⟨_, rfl⟩
    obtain ⟨w6, hw6⟩ : ∃ w_, w_ = w5.alloc (.cells #[.int .i64 s.1, .slice B1 s.2.1.length d1, .slice B2 s.2.2.1.length d2, .slice B3 s.2.2.2.length d3] 59 (0, 0)) := ⟨_, rfl⟩
    rw [← hw6, ← hgq] at x0 x0f x1 x1f x2 x2f x3 x3f
    rw [← hw6]
    (try rw [← hgq])
    have BKgq := zA (show w6.heap[gq]? = some (.cells #[.int .i64 s.1, .slice B1 s.2.1.length d1, .slice B2 s.2.2.1.length d2, .slice B3 s.2.2.2.length d3] 59 (0, 0)) from by rw [hw6, hgq]; exact blk_new w5 _)
    have hb6 : Below w5.heap.size w5 w6 := by rw [hw6]; exact below_alloc (Below.refl _ _) _
    have HB6 := zA (show Below wr.heap.size wr w6 from grew_trans HB5.out hb6)
    have HZ6 := zA HB6.out.size
    have HM6 := zA (show kSeg.M w6 wr.heap.size (fun k => wr.heap.size ≤ k) s [.int .i64 s.1, .slice B1 s.2.1.length d1, .slice B2 s.2.2.1.length d2, .slice B3 s.2.2.2.length d3] from kSeg.M_mono (fun k hk => hk.2.1) (kSeg.M_bound (Kd.M_below HM5.out hb6)))
    have hk6 := kSeg_open (kSeg.K_of_M HM6.out)
    have hct : Kd.C kB w6 B1 s.2.1.length s.2.1 ∧ s.2.1.length ≤ d1 := by
     obtain ⟨E1, e1, E2, e2, E3, e3, ee, hT⟩ := hk6
     simp only [List.cons.injEq, and_true, Value.slice.injEq, true_and] at ee
     obtain ⟨⟨rfl, rfl⟩, ⟨rfl, rfl⟩, rfl, rfl⟩ := ee
     obtain ⟨⟨F1, e1, ee, hl, hr⟩, _, _⟩ := Decode.seg_parts hT
     obtain ⟨rfl, rfl⟩ : B1 = F1 ∧ d1 = e1 := by injection ee with x1 x2 x3; exact ⟨x1, x3⟩
     exact ⟨hr, hl⟩
    have htt := total_calls B1 d1 s.2.1 w6 hct.1 hct.2 (by show _ ≤ _; omega)
    have BKS := zA (blk_below HG.out HB6.out)
    clear hgq hw6 hb6 hk6 hct
    go_at_call 54
    refine htt.mono ?_
    rintro e w7 ⟨rfl, hw7⟩
    have hw7' := hw7.symm
    subst hw7'
    clear hw7
    have HOL := zA (fun k (h : (Value.slice Ap i cp).ownBlock = some k) => Kd.R_lt HR.out k h)
    obtain ⟨⟨y0, y0f⟩, ⟨y1, y1f⟩⟩ := cells2 BKS.out
    obtain ⟨⟨z0, z0f⟩, ⟨z1, z1f⟩⟩ := cells2 (blk_alloc BKS.out (.cells #[.int .i64 s.1, .slice B1 s.2.1.length d1, .slice B2 s.2.2.1.length d2, .slice B3 s.2.2.2.length d3] 59 (0, 0)))
    clear htt
    go_wp2_with fail
    go_region_law (rw [← World.alloc_drew]; refine Kd.R_append_step kSeg (w0 := w) w.heap.size (by first | rfl | simp [Region.wanted]) (.tmp 50) (.tmp 52) 44 59 (.agg #[.int .i64 0, .slice none 0 0, .slice none 0 0, .slice none 0 0]) 80 zq16 Tryz.underlying44 infoSeg rfl zq15 zq1 (.slice Ap i cp) acc s [.int .i64 s.1, .slice B1 s.2.1.length d1, .slice B2 s.2.2.1.length d2, .slice B3 s.2.2.2.length d3] (fun k => w3.heap.size ≤ k) (fun k => wr.heap.size ≤ k) zq28 zq28 ?aP ?aK ?aF ?aO ?aB ?aS ?aL ?_; (case aP => exact kSeg.M_lower HB.out.size (Kd.M_below HM6.out zq3)); (case aK => exact fun k hk => ⟨by have h1 := HK.out.1; have h2 : wr.heap.size ≤ k := hk; omega, fun e => by have h2 : wr.heap.size ≤ k := hk; have h3 := HOL.out k e.symm; omega⟩); (case aF => exact fun k hk => by have h1 := HK.out.1; have h2 := HZ6.out; have h4 : w6.heap.size ≤ k := Nat.le_trans (below_size zq3) hk; omega); (case aO => exact Kd.R_below (Kd.R_below HR.out HB6.out) zq3); (case aB => exact grew_trans (grew_trans HB.out HB6.out) zq3); (case aS => exact (grew_trans (grew_trans HB.out HB6.out) zq3).size); (case aL => omega); intro v7 w7 hO7 hB7 hg7 hat7; obtain ⟨A7, c7, e7⟩ := Kd.R_slice hO7; rw [show (acc ++ [s]).length = i + 1 from by have h4 := HN4.out; rw [List.length_append, List.length_singleton]; omega] at e7; subst e7; have HG7 := zA (show w6.drew.grownBy w7 (Value.slice Ap i cp).ownBlock from hg7); have BK7 := zA (blk_grown (g := gs) (blk_drew BKS.out) HG7.out (fun e => by have h1 := HOW.out _ e.symm; have h2 := GSL.out; omega)); obtain ⟨⟨rc0, rf0⟩, ⟨rc1, rf1⟩⟩ := cells2 BK7.out; have HO7 := zA hO7; have HB7 := zA hB7; clear hO7 hB7 hg7 hat7)
    all_goals
     go_wp2
     go_roundg (st.1.length - (i + 1))
     case measure => omega
     case rel =>
      have hz1 := HK.out.1
      have hz2 := HZ6.out
      have hz7 : w6.heap.size ≤ w7.heap.size := HG7.out.size
      refine ⟨i + 1, acc ++ [s], A7, c7, zq1, zq1, by go_num, ?_, ?_, ⟨HCN.out⟩, ⟨blk_put (cs := #[.slice Ap i cp, .slice none 0 0]) BK7.out 0 _ rfl⟩, ⟨?_⟩, ⟨fun k hk => HO7.out.1 k hk⟩, ⟨?_⟩, ⟨below_set HB7.out (Nat.le_trans HBw1.out.size GEgs.out)⟩⟩
      ·rw [nlin_append, nlin_one]; go_num
      ·rw [tots_append, tots_one]
       congr 1
       omega
      ·exact Kd.R_far HO7.out (fun k hk => by have h1 : w3.heap.size ≤ k := hk; have h2 := GSL.out; show k ≠ gs; omega) _
      ·exact ⟨by simp [World.setCell]; omega, fun k hk hne => (Below.heap_setCell w7 ⟨gs, 0, none⟩ _ k hne).trans ((HG7.out.block k (show k < w6.heap.size from by omega) (fun e => by have h1 := HOW.out _ e.symm; omega)).trans ((HB6.out.block k zq1).trans (HK.out.2 k hk hne)))⟩
  ·have hltz : ¬ (i : Int) < (st.1.length : Int) := by omega
   obtain rfl : i = st.1.length := by omega
   have hC := HC.out
   rw [List.take_length] at hC
   have HC9 := zA hC
   have HSA := zA (segs_all (st := st) hC)
   have BP9 := zA (blk_kept BKgp.out HK.out NEP.out)
   clear hC HC
   obtain ⟨⟨p0, p0f⟩, ⟨p1, p1f⟩⟩ := cells2 BP9.out
   have hct := HCT.out wr HB.out
   cases hp : plain st.2 with
   | false =>
    rw [hp] at hct
    have HNO := zA (show segsOf st = none from by rw [HSA.out, if_neg (fun h => by rw [hp] at h; exact Bool.noConfusion h.1)])
    clear hp
    go_wp2_with (go_at_call 71; refine hct.mono ?_; rintro e w8 ⟨rfl, hb8⟩)
    go_ret2
    exact ⟨got_none HNO.out rfl, grew_trans HB.out hb8⟩
   | true =>
    rw [hp] at hct
    have HP := zA hp
    clear hp
    have ARMC := True.intro
    by_cases hlen : nlin acc + st.2.length ≤ 1000
    case neg =>
     have hlz : ¬ (((nlin acc : Nat) : Int) + (st.2.length : Int) ≤ 1000) := by omega
     have HNO := zA (show segsOf st = none from by rw [HSA.out, if_neg (fun h => hlen h.2.1)])
     go_wp2_with (go_at_call 71; refine hct.mono ?_; rintro e w8 ⟨rfl, hb8⟩; have HB8 := zA hb8; obtain ⟨⟨t0, t0f⟩, ⟨t1, t1f⟩⟩ := cells2 (blk_below BP9.out hb8); clear hb8)
     go_ret2
     exact ⟨got_none HNO.out rfl, grew_trans HB.out HB8.out⟩
    case pos =>
     have hlz : ((nlin acc : Nat) : Int) + (st.2.length : Int) ≤ 1000 := by omega
     by_cases htot : tots acc + totalB st.2 ≤ 20000
     case neg =>
      have htz : ¬ (((tots acc : Nat) : Int) + (totalB st.2 : Int) ≤ 20000) := by omega
      have HNO := zA (show segsOf st = none from by rw [HSA.out, if_neg (fun h => htot h.2.2)])
      go_wp2_with (go_at_call 71; refine hct.mono ?_; rintro e w8 ⟨rfl, hb8⟩; have HB8 := zA hb8; obtain ⟨⟨t0, t0f⟩, ⟨t1, t1f⟩⟩ := cells2 (blk_below BP9.out hb8); clear hb8)
      go_ret2
      exact ⟨got_none HNO.out rfl, grew_trans HB.out HB8.out⟩
     case pos =>
      have htz : ((tots acc : Nat) : Int) + (totalB st.2 : Int) ≤ 20000 := by omega
      have HYES := zA (show segsOf st = some acc from by rw [HSA.out, if_pos ⟨HP.out, hlen, htot⟩])
      go_wp2_with (first | (go_at_call 71; refine hct.mono ?_; rintro e w8 ⟨rfl, hb8⟩; have HB8 := zA hb8; obtain ⟨⟨t0, t0f⟩, ⟨t1, t1f⟩⟩ := cells2 (blk_below BP9.out hb8); clear hb8) | (go_at_call 74; refine (HCP.out _ (grew_trans HB.out HB8.out)).mono ?_; rintro e w9 ⟨v9, rfl, hS9, hb9⟩; obtain ⟨Ao, co, rfl⟩ := Kd.S_slice hS9; have BK9 := zA (blk_below (blk_below HG.out HB8.out) hb9); obtain ⟨⟨s0, s0f⟩, ⟨s1, s1f⟩⟩ := cells2 BK9.out; have HS9 := zA hS9; have HB9 := zA hb9; clear hS9 hb9))
      go_ret2
      have hz8 := HB8.out.size
      have hz9 := HB9.out.size
      have hz := HB.out.size
      have hzk := HK.out.1
      have hgs := GSL.out
      refine ⟨?_, below_set (grew_trans (grew_trans HB.out HB8.out) HB9.out) (Nat.le_trans HBw1.out.size GEgs.out)⟩
      unfold Got
      rw [HYES.out, ← HN4.out]
      rw [← HN4.out] at BK9
      refine ⟨gs, Ap, cp, Ao, co, w8.heap.size, rfl, blk_put (cs := #[.slice Ap acc.length cp, .slice none 0 0]) BK9.out 1 _ rfl, Nat.le_trans HBw1.out.size GEgs.out, zq1, by simp [World.setCell]; omega, ?_, ?_⟩
      ·have hR := HR.out
       rw [← HN4.out] at hR
       exact Kd.R_far (Kd.R_mono (Kd.R_below (Kd.R_below (Kd.R_bound hR) HB8.out) HB9.out) (fun k hk => by have h1 : w3.heap.size ≤ k := hk.1; have h2 := hk.2.2.1; exact ⟨zq1, zq1⟩)) (fun k hk => by have h1 := hk.1; show k ≠ gs; omega) _
      ·exact Ty.M_set (T := HelpBB.tBB) (HelpBB.tBB.M_mono (fun k hk => hk.2.1) (HelpBB.tBB.M_lower zq1 (HelpBB.tBB.M_bound HS9.out))) (fun k hk e => by have h1 : w8.heap.size ≤ k := hk; omega) _
end Go.Proofs.YtmgmdnmfalepkaaGreat.Sto

namespace Go.Proofs.YtmgmdnmfalepkaaGreat.Sto
open Go.RowKit Go.Proofs.YtmgmdnmfalepkaaGreatW.PrintWords Go.Proofs.YtmgmdnmfalepkaaGreatW.PrintMore Go.Proofs.YtmgmdnmfalepkaaGreat.Kit Go.Proofs.YtmgmdnmfalepkaaGreat.PKit Go.Proofs.YtmgmdnmfalepkaaGreat.Ty Go.Proofs.YtmgmdnmfalepkaaGreat.PSeg Go.Proofs.YtmgmdnmfalepkaaGreat.PEnc Go.Proofs.YtmgmdnmfalepkaaGreat.PDec Go.Proofs.YtmgmdnmfalepkaaGreat.PSta Go.Proofs.YtmgmdnmfalepkaaGreat.HelpBB Go.Proofs.YtmgmdnmfalepkaaGreat.HelpSeg
open Go.Proofs.YtmgmdnmfalepkaaGreat.Build hiding code ans
set_option linter.unusedVariables false
set_option linter.unusedSimpArgs false
abbrev StepT := List SegT → (List SegT × List (List Int)) × Int
def chg (x : StaT) (f : StepT) : StaT × Int := match segsOf x with
 | none => (([], []), 4)
 | some ss => (((f ss).1.1.map code, (f ss).1.2), (f ss).2)
def StepOk (g : Nat) (cap : Array Value) (x : StaT) (f : StepT) (w0 : World) : Prop :=
 ∀ (W : World) (gs N : Nat) (Av Ao : Option Addr) (cv co : Nat) (ss : List SegT), segsOf x = some ss → (∀ s ∈ ss, Good s) → Below w0.heap.size w0 W → w0.heap.size ≤ gs → gs < N → N ≤ W.heap.size →
  W.heap[gs]? = some (.cells #[.slice Av ss.length cv, .slice Ao x.2.length co] 79 (0, 0)) → Kd.R kSeg 59 W w0.heap.size (fun k => gs < k ∧ k < N) (.slice Av ss.length cv) ss → Kd.S kB 25 W w0.heap.size (fun k => N ≤ k) (.slice Ao x.2.length co) x.2 →
  Calls Tryz.prog g (#[.pointer (some ⟨gs, 0, none⟩)] ++ cap) W fun e w' => ∃ (Bv : Option Addr) (dv : Nat) (Bo : Option Addr) (do_ : Nat), e = .returned (.int .i64 (f ss).2) ∧ w'.heap[gs]? = some (.cells #[.slice Bv (f ss).1.1.length dv, .slice Bo (f ss).1.2.length do_] 79 (0, 0)) ∧ Kd.C kSeg w' Bv (f ss).1.1.length (f ss).1.1 ∧ Kd.C kB w' Bo (f ss).1.2.length (f ss).1.2 ∧ (f ss).1.2.length ≤ do_ ∧ Below w0.heap.size w0 w'
theorem two_M (w : World) (base : Nat) : HelpSta.tSta.M w base (fun _ => True) ([], []) (.agg #[.slice none 0 0, .slice none 0 0]) :=
 HelpSta.tSta.M_mono (fun _ _ => trivial) ⟨[_, _], rfl, Tys.cons_apart (ok1 := fun _ => False) (ok2 := fun _ => True) (Kd.S_nil _ _ _ _ _) (Tys.M_one (Kd.S_nil _ _ _ _ _)) (fun _ _ h => h)⟩
set_option maxRecDepth 100000 in
set_option maxHeartbeats 8000000 in
theorem changed_calls (g : Nat) (cap : Array Value) (eg : ∀ args w, (callFunc g args).run Tryz.prog w = .ok (.enter g args) w) (x : StaT) (f : StepT) (A0 A1 : Option Addr) (c0 c1 : Nat) (w : World) (h0 : Kd.C kB w A0 x.1.length x.1) (l0 : x.1.length ≤ c0) (h1 : Kd.C kB w A1 x.2.length x.2) (l1 : x.2.length ≤ c1) (hb0 : Bytes x.1) (hb1 : Bytes x.2) (s0 : smallBB x.1) (s1 : smallBB x.2)
  (hst : ∀ w0, Below w.heap.size w w0 → StepOk g cap x f w0) (hgd : ∀ ss, segsOf x = some ss → (∀ s ∈ (f ss).1.1, Good s) ∧ (f ss).1.1.length ≤ 1048576 ∧ smallBB (f ss).1.2) :
  Calls Tryz.prog 27 #[.agg #[.slice A0 x.1.length c0, .slice A1 x.2.length c1], .func (.func g) #[] cap] w fun e w' => ∃ v', e = .returned (.tuple #[v', .int .i64 (chg x f).2]) ∧ HelpSta.tSta.M w' w.heap.size (fun _ => True) (chg x f).1 v' ∧ Grew w w' := by
 have huT := Tryz.underlying27
 have H0 := zA h0
 have H1 := zA h1
 have HSO := zA (fun (W : World) (hW : Below w.heap.size w W) => storeOf_calls x A0 A1 c0 c1 W (Kd.C_below h0 hW) l0 (Kd.C_below h1 hW) l1 hb0 hb1 s0 s1)
 have HB0 := zA hb0
 have HST := zA hst
 have HGD := zA hgd
 clear h0 h1 hb0 hb1 hst hgd s0 s1
 go_enter Tryz.func27, Tryz.ntmps27
 go_wp2_with (first | ((with_reducible refine gate_dst (N := 2) rfl ?_); refine box_event ?hg (N := 2) ?hd (cs := #[.slice A0 x.1.length c0, .slice A1 x.2.length c1]) (t := 27) ?hr ?_; (case hd => rfl); (case hg => rfl); (case hr => first | (go_simp; done) | (go_simp; rfl)); intro gx hg_ w1 hbx hbb; have BKgx := zA hbx; have GEgx := zA (show w.heap.size ≤ gx from Nat.le_of_eq hg_.symm); have GLgx := zA (blk_lt hbx); have HBw1 := zA hbb; clear hg_ hbb; obtain ⟨⟨hgxc0, hgxf0⟩, ⟨hgxc1, hgxf1⟩⟩ := cells2 hbx; clear hbx) | ((with_reducible refine gate_dst (N := 4) rfl ?_); refine box_event ?hg (N := 4) ?hd (cs := #[.slice none 0 0, .slice none 0 0]) (t := 27) ?hr ?_; (case hd => rfl); (case hg => rfl); (case hr => first | (go_simp; done) | (go_simp; rfl)); intro gr hg_ w2 hbx hbb; have BKgr := zA hbx; have GEgr := zA (show w1.heap.size ≤ gr from Nat.le_of_eq hg_.symm); have GLgr := zA (blk_lt hbx); have HBw2 := zA hbb; clear hg_ hbb; obtain ⟨⟨hgrc0, hgrf0⟩, ⟨hgrc1, hgrf1⟩⟩ := cells2 hbx; clear hbx; have BKp_ := zA (blk_below BKgx.out HBw2.out); clear BKgx hgxc0 hgxf0 hgxc1 hgxf1; have BKgx := BKp_; clear BKp_; obtain ⟨⟨pc0, pf0⟩, ⟨pc1, pf1⟩⟩ := cells2 BKgx.out))
 have HB2 := zA (show Below w.heap.size w w2 from grew_trans HBw1.out HBw2.out)
 have GER := zA (show w.heap.size ≤ gr from Nat.le_trans HBw1.out.size GEgr.out)
 clear hgrc0 hgrf0 hgrc1 hgrf1 pc0 pf0 pc1 pf1
 go_at_call 49
 refine (HSO.out _ HB2.out).mono ?_
 rintro e w3 ⟨hG3, hb3⟩
 have BK3 := zA (blk_below BKgr.out hb3)
 have HB3 := zA (show Below w.heap.size w w3 from grew_trans HB2.out hb3)
 have HB23 := zA hb3
 have GLR := zA (blk_lt BKgr.out)
 obtain ⟨⟨r0, rf0⟩, ⟨r1, rf1⟩⟩ := cells2 BK3.out
 clear hb3
 cases hs : segsOf x with
 | none =>
  unfold Got at hG3
  rw [hs] at hG3
  obtain rfl := hG3
  have HS := zA hs
  clear hs
  go_wp2
  refine bodyPost_ret (results_ct rfl _ _ gr 27 #[.slice none 0 0, .slice none 0 0] (0, 0) _ rfl (by (with_reducible repeat (first | refine blk_drewN ?_ _ | refine blk_drew ?_ | refine blk_alloc ?_ _)); refine blk_put (cs := #[.slice none 0 0, .slice none 0 0]) ?_ 1 _ rfl; (with_reducible repeat (first | refine blk_drewN ?_ _ | refine blk_drew ?_ | refine blk_alloc ?_ _)); refine blk_put (cs := #[.slice none 0 0, .slice none 0 0]) ?_ 0 _ rfl; (with_reducible repeat (first | refine blk_drewN ?_ _ | refine blk_drew ?_ | refine blk_alloc ?_ _)); exact BK3.out) Tryz.underlying27 rfl zq5) rfl ?_
  rw [show chg x f = (([], []), 4) from by unfold chg; rw [HS.out]]
  exact ⟨_, rfl, two_M _ _, below_set (below_set (HB3.out) GER.out) GER.out⟩
 | some ss =>
  unfold Got at hG3
  rw [hs] at hG3
  obtain ⟨gs, Av, cv, Ao, co, N, rfl, hk3, g1, g2, g3, hR3, hS3⟩ := hG3
  have HS := zA hs
  have HC := zA (show chg x f = (((f ss).1.1.map code, (f ss).1.2), (f ss).2) from by unfold chg; rw [hs])
  have HF := zA (HGD.out ss hs)
  have hstep := HST.out w2 HB2.out w3 gs N Av Ao cv co ss hs (chain_good (segsOf_some hs).1 HB0.out) HB23.out g1 g2 g3 hk3 hR3 hS3
  have GSR := zA (show gr < gs from by have := GLR.out; omega)
  clear hs hk3 g2 g3 hR3 hS3 g1
  generalize f ss = q at hstep HC HF
  go_wp2_with fail
  go_at_fn g
  refine hstep.mono ?_
  rintro e w4 ⟨Bv, dv, Bo, do_, rfl, hk4, hC4, hO4, hl4, hb4⟩
  have HB24 := zA hb4
  have HB4 := zA (show Below w.heap.size w w4 from grew_trans HB2.out hb4)
  have BK4 := zA (blk_below BKgr.out hb4)
  have HSC := zA (state_calls gs Bv Bo dv do_ q.1.1.length q.1.2.length q.1.1 q.1.2 rfl rfl w4 hk4 hC4 hO4 hl4 HF.out.2.2 HF.out.1 HF.out.2.1)
  clear hk4 hC4 hO4 hl4 hb4 hstep r0 rf0 r1 rf1
  obtain ⟨⟨r0, rf0⟩, ⟨r1, rf1⟩⟩ := cells2 BK4.out
  go_wp2_with fail
  go_at_call 50
  refine HSC.out.mono ?_
  rintro e w5 ⟨v5, rfl, hM5, hb5⟩
  obtain ⟨E0, e0, E1, e1, ev⟩ := HelpSta.form (HelpSta.tSta.K_of_M hM5)
  have ev : v5 = .agg #[.slice E0 (q.1.1.map code).length e0, .slice E1 q.1.2.length e1] := ev
  rw [List.length_map] at ev
  subst ev
  have HM5 := zA hM5
  have HB45 := zA hb5
  have HB5 := zA (show Below w.heap.size w w5 from grew_trans HB4.out hb5)
  have BK5 := zA (blk_below BK4.out hb5)
  clear hM5 hb5 r0 rf0 r1 rf1
  obtain ⟨⟨r0, rf0⟩, ⟨r1, rf1⟩⟩ := cells2 BK5.out
  go_wp2
  refine bodyPost_ret (results_ct rfl _ _ gr 27 #[.slice E0 q.1.1.length e0, .slice E1 q.1.2.length e1] (0, 0) _ rfl (by (with_reducible repeat (first | refine blk_drewN ?_ _ | refine blk_drew ?_ | refine blk_alloc ?_ _)); refine blk_put (cs := #[.slice E0 q.1.1.length e0, .slice none 0 0]) ?_ 1 _ rfl; (with_reducible repeat (first | refine blk_drewN ?_ _ | refine blk_drew ?_ | refine blk_alloc ?_ _)); refine blk_put (cs := #[.slice none 0 0, .slice none 0 0]) ?_ 0 _ rfl; (with_reducible repeat (first | refine blk_drewN ?_ _ | refine blk_drew ?_ | refine blk_alloc ?_ _)); exact BK5.out) Tryz.underlying27 rfl zq5) rfl ?_
  rw [HC.out]
  refine ⟨_, rfl, ?_, below_set (below_set (HB5.out) GER.out) GER.out⟩
  exact HelpSta.tSta.M_mono (fun _ _ => trivial) ((Ty.M_set (T := HelpSta.tSta) (Ty.M_set (T := HelpSta.tSta) (HelpSta.tSta.M_lower HB4.out.size (HelpSta.tSta.M_bound HM5.out)) (fun k hk e => by have h1 := hk.2.1; have h2 := GLR.out; have h3 := HB24.out.size; omega) _) (fun k hk e => by have h1 := hk.2.1; have h2 := GLR.out; have h3 := HB24.out.size; omega) _))
end Go.Proofs.YtmgmdnmfalepkaaGreat.Sto

namespace Go.Proofs.YtmgmdnmfalepkaaGreat.Far
open Go.RowKit Go.Proofs.YtmgmdnmfalepkaaGreatW.PrintWords Go.Proofs.YtmgmdnmfalepkaaGreatW.PrintMore Go.Proofs.YtmgmdnmfalepkaaGreat.Kit Go.Proofs.YtmgmdnmfalepkaaGreat.PKit Go.Proofs.YtmgmdnmfalepkaaGreat.Ty Go.Proofs.YtmgmdnmfalepkaaGreat.Build Go.Proofs.YtmgmdnmfalepkaaGreat.HelpBB
set_option linter.unusedVariables false
def far {α : Type} (d : Kd α) (w0 : World) : Kd α where
 sz := d.sz
 E := []
 K := fun _ x cs => d.K w0 x cs
 M := fun _ _ _ x cs => d.K w0 x cs
 K_len := fun h => d.K_len h
 K_one := fun h => d.K_one h
 K_below := fun _ h => h
 K_of_M := fun h => h
 M_mono := fun _ h => h
 M_bound := fun h => h
 M_move := fun _ h => h
 M_lower := fun _ h => h
theorem far_C {α : Type} {d : Kd α} {w0 W : World} {A : Option Addr} {n : Nat} {xs : List α} (h : (far d w0).C W A n xs) (hb : Below w0.heap.size w0 W) : d.C W A n xs :=
 ReadsRow.imp_ (size := d.sz) (R := d.K w0) h (Below.refl _ _) (fun p c h => d.K_below hb h)
theorem far_reads {α : Type} {d : Kd α} {w0 W : World} {A : Option Addr} {n : Nat} {xs : List α} (h : d.C w0 A n xs) (hb : Below w0.heap.size w0 W) : ReadsRow (d.K w0) d.sz W A n xs :=
 ReadsRow.imp_ h hb (fun _ _ h => h)
theorem zeros_size (n : Nat) : (Builtin.zeroCells #[(.slice none 0 0 : Value)] n).size = n := by
 simp [Builtin.zeroCells]
set_option maxRecDepth 100000 in
set_option maxHeartbeats 4000000 in
theorem grow_calls (n : Nat) (w0 w : World) (hB : Below w0.heap.size w0 w) (hn : n ≤ 1099511627776) :
  Calls Tryz.prog 105 #[.slice none 0 0, .int .i64 (n : Int)] w fun e w' => ∃ v, e = .returned v ∧ (far kB w0).R 25 w' w0.heap.size (fun _ => True) v [] ∧ Below w0.heap.size w0 w' ∧ Grew w w' ∧ (∀ k, v.ownBlock = some k → w.heap.size ≤ k) := by
 have HB := zA hB
 clear hB
 have h1 : ¬ ((n : Int) < 0) := by omega
 by_cases h0 : n = 0
 ·subst h0
  go_enter Tryz.func105, Tryz.ntmps105
  go_wp2
  go_ret
  exact ⟨_, rfl, Kd.R_nil _ _ _ _ _, HB.out, Below.refl _ _, fun k hk => by simp [Value.ownBlock] at hk⟩
 ·have h4 : (n : Int) > 0 := by omega
  obtain ⟨i0, hi, hz0, hz1, hz2⟩ := info_parts infoBB
  have hold : (Builtin.firstCells i0.size 0 (.slice none 0 0)).run Tryz.prog w.drew = .ok (([] : List Value).toArray) w.drew := run_firstCells_none w.drew i0.size 0 0 0
  have hrz : ∀ ty, (Builtin.append_ #[22, 3] ty #[.slice none 0 0, .int .i64 (n : Int)]).run Tryz.prog w =
    .ok (.slice (some ⟨w.heap.size, 0, none⟩) n (grownCap w n 0 25)) (w.drew.alloc (.cells (([] : List Value).toArray ++ Builtin.zeroCells (.slice none 0 0 : Value).cells n ++ Builtin.zeroCells (.slice none 0 0 : Value).cells (grownCap w n 0 25 - n)) 25)) := fun ty => by
   have h := Lib.run_append_grow_zeros w 22 3 ty 25 i0 (.slice none 0 0) .i64 .i64 Tryz.underlying22 Tryz.underlying3 hi hz0 none 0 0 [] hold n zq1 zq1 zq1 zq1
    (by rw [hz2]; omega)
    (by rw [Nat.zero_add]; exact growslice_fits zq1 (by rw [hz2]; omega))
   rw [Nat.zero_add] at h
   exact h
  have hGn : n ≤ grownCap w n 0 25 := grownCap_ge w _ _ _
  have hG63 : grownCap w n 0 25 ≤ maxLen := grownCap_le_maxLen w n 0 _ (by unfold maxLen; omega)
  obtain ⟨G, hG⟩ : ∃ G, G = grownCap w n 0 25 := ⟨_, rfl⟩
  rw [← hG] at hrz hGn hG63
  clear hG hold
  have hG64 : G ≤ 9223372036854775807 := by unfold maxLen at hG63; omega
  have HRZ := zA hrz
  have HGM := zA hG63
  clear hrz hG63
  go_enter Tryz.func105, Tryz.ntmps105
  go_wp2_with (at_builtin; refine Lib.wpList_append_run _ rfl _ _ _ _ rfl _ _ rfl rfl _ _ (HRZ.out _) ?_)
  all_goals
   go_ret
   refine ⟨_, rfl, ?_, below_alloc HB.out.drew _, below_alloc (below_drew1 (Below.refl _ _)) _, fun k hk => by have e : w.heap.size = k := (by simpa [Value.ownBlock] using hk); omega⟩
   refine ⟨fun _ _ => trivial, [], ⟨rfl, .inr ⟨w.heap.size, G, _, rfl, HB.out.size, heap_alloc_new _ _, Nat.zero_le _, HGM.out, ?_, rfl⟩⟩, Reps.none _ _⟩
   show _ = G * 1
   simp [zeros_size]
   omega
def Two (w : World) (g : Nat) (a b : Value) : Prop := w.cell? ⟨g, 0, none⟩ = some a ∧ w.cell? ⟨g, 1, none⟩ = some b
set_option maxRecDepth 100000 in
set_option maxHeartbeats 4000000 in
theorem concat_calls (g : Nat) (A1 A2 : Option Addr) (c1 c2 : Nat) (x y : List (List Int)) (w0 w : World) (hB : Below w0.heap.size w0 w) (hr1 : Kd.C kB w0 A1 x.length x) (hr2 : Kd.C kB w0 A2 y.length y) (hT : Two w g (.slice A1 x.length c1) (.slice A2 y.length c2)) (hl : x.length + y.length ≤ 4194304) :
  Calls Tryz.prog 84 #[.slice (some ⟨g, 0, none⟩) 2 2] w fun e w' => ∃ v, e = .returned v ∧ (far kB w0).R 25 w' w0.heap.size (fun _ => True) v (x ++ y) ∧ Below w0.heap.size w0 w' := by
 have hg := grow_calls (x.length + y.length) w0 w hB zq1
 rw [Int.natCast_add] at hg
 have HB := zA hB
 have HR1 := zA hr1
 have HR2 := zA hr2
 obtain ⟨hT0, hT1⟩ := hT
 have HT0 := zA hT0
 have HT1 := zA hT1
 clear hB hr1 hr2
 have q1 : ¬ ((x.length : Int) < 0) := by omega
 have q2 : ¬ ((x.length : Int) + (y.length : Int) < 0) := by omega
 go_enter Tryz.func84, Tryz.ntmps84
 go_wp2_with fail
 go_loopg [3, 11] 2 (fun gg s3 s11 wr => ∃ i : Nat, i ≤ 2 ∧ 2 - i ≤ gg ∧ s11 = .int .i64 (i : Int) ∧ s3 = .int .i64 ((if i = 0 then 0 else if i = 1 then x.length else x.length + y.length : Nat) : Int) ∧ w = wr)
 case atStart => exact ⟨0, zq1, zq1, rfl, rfl, rfl⟩
 case round =>
  obtain ⟨i, hi, hg_, rfl, rfl, rfl⟩ := hrel
  rcases (show i = 0 ∨ i = 1 ∨ i = 2 by omega) with rfl | rfl | rfl
  ·have ht := HT0.out
   go_wp2
   go_roundg 1
   case measure => omega
   case rel => exact ⟨1, zq1, zq1, rfl, zq12, rfl⟩
  ·have ht := HT1.out
   go_wp2
   go_roundg 0
   case measure => omega
   case rel => exact ⟨2, zq1, zq1, rfl, zq12, rfl⟩
  ·go_wp2_with fail
   go_at_call 105
   refine hg.mono ?_
   rintro e w2 ⟨v2, rfl, hR2, hB2, hG2, hO2⟩
   obtain ⟨A3, c3, rfl⟩ := Kd.R_slice hR2
   have HR3 := zA hR2
   have HB2 := zA hB2
   have HO2 := zA hO2
   have HGL := zA (World.block_lt_of_cell? w _ HT0.out)
   have HH2 := zA (show w2.heap[g]? = w.heap[g]? from hG2.block g HGL.out)
   have HZ2 := zA hG2.size
   clear hR2 hB2 hO2 hG2 hg
   go_wp2_with fail
   go_loopg [6, 27] 2 (fun gg s6 s27 wr => ∃ i : Nat, i ≤ 2 ∧ 2 - i ≤ gg ∧ s27 = .int .i64 (i : Int) ∧ Aside0 ((far kB w0).R 25 wr w0.heap.size (fun _ => True) s6 (if i = 0 then [] else if i = 1 then x else x ++ y)) ∧ Aside0 (Below w0.heap.size w0 wr) ∧ Aside0 (∀ k, s6.ownBlock = some k → w.heap.size ≤ k) ∧ Aside0 (wr.heap[g]? = w.heap[g]?) ∧ Aside0 (w.heap.size ≤ wr.heap.size))
   case atStart => exact ⟨0, zq1, zq1, rfl, HR3, HB2, HO2, HH2, HZ2⟩
   case round =>
    obtain ⟨i, hi, hg_, rfl, HRi, HBi, HOi, HHi, HZi⟩ := hrel
    rcases (show i = 0 ∨ i = 1 ∨ i = 2 by omega) with rfl | rfl | rfl
    ·have ht : wr.cell? ⟨g, 0, none⟩ = some (.slice A1 x.length c1) := (World.cell?_of_block HHi.out).trans HT0.out
     go_wp2_with (at_builtin; refine Kd.R_append_rows (far kB w0) (Rr := kB.K w0) (w0 := w0) w0.heap.size rfl (.tmp 31) (.tmp 32) 22 25 (.slice none 0 0) 24 rfl Tryz.underlying22 infoBB rfl Nat.zero_lt_one zq1 u6 [] x A1 x.length c1 (fun _ => True) (fun _ => False) rfl rfl HRi.out (far_reads HR1.out HBi.out) (fun _ _ h => h) (fun _ h => h.elim) (fun _ _ => trivial) HBi.out HBi.out.size zq35 ?_; intro v1 w1 hR1 hB1 hg1 hat1)
     go_roundg 1
     case measure => omega
     case rel => exact ⟨1, zq1, zq1, rfl, ⟨hR1⟩, ⟨hB1⟩, ⟨fun k hk => by rcases hat1 with h | ⟨b, h, hb⟩; exact HOi.out k (h ▸ hk); (rw [h] at hk; injection hk with hk; have := HZi.out; omega)⟩, ⟨(hg1.block g (by have := HGL.out; have := HZi.out; omega) (fun e => by have h1 := HOi.out g e.symm; have h2 := HGL.out; have h3 : g < w.heap.size := h2; omega)).trans HHi.out⟩, ⟨by have h1 := HZi.out; have h2 := hg1.size; omega⟩⟩
    ·have ht : wr.cell? ⟨g, 1, none⟩ = some (.slice A2 y.length c2) := (World.cell?_of_block HHi.out).trans HT1.out
     go_wp2_with (at_builtin; refine Kd.R_append_rows (far kB w0) (Rr := kB.K w0) (w0 := w0) w0.heap.size rfl (.tmp 31) (.tmp 32) 22 25 (.slice none 0 0) 24 rfl Tryz.underlying22 infoBB rfl Nat.zero_lt_one zq1 u6 x y A2 y.length c2 (fun _ => True) (fun _ => False) rfl rfl HRi.out (far_reads HR2.out HBi.out) (fun _ _ h => h) (fun _ h => h.elim) (fun _ _ => trivial) HBi.out HBi.out.size zq1 ?_; intro v1 w1 hR1 hB1 hg1 hat1)
     go_roundg 0
     case measure => omega
     case rel => exact ⟨2, zq1, zq1, rfl, ⟨hR1⟩, ⟨hB1⟩, ⟨fun k hk => by rcases hat1 with h | ⟨b, h, hb⟩; exact HOi.out k (h ▸ hk); (rw [h] at hk; injection hk with hk; have := HZi.out; omega)⟩, ⟨(hg1.block g (by have := HGL.out; have := HZi.out; omega) (fun e => by have h1 := HOi.out g e.symm; have h2 := HGL.out; have h3 : g < w.heap.size := h2; omega)).trans HHi.out⟩, ⟨by have h1 := HZi.out; have h2 := hg1.size; omega⟩⟩
    ·have hr := HRi.out
     obtain ⟨A9, c9, rfl⟩ := Kd.R_slice hr
     go_wp2
     go_ret
     exact ⟨_, rfl, HRi.out, HBi.out⟩
end Go.Proofs.YtmgmdnmfalepkaaGreat.Far

namespace Go.Proofs.YtmgmdnmfalepkaaGreat.Mrg
open Go.RowKit Go.Proofs.YtmgmdnmfalepkaaGreatW.PrintWords Go.Proofs.YtmgmdnmfalepkaaGreatW.PrintMore Go.Proofs.YtmgmdnmfalepkaaGreat.Kit Go.Proofs.YtmgmdnmfalepkaaGreat.PKit Go.Proofs.YtmgmdnmfalepkaaGreat.Ty Go.Proofs.YtmgmdnmfalepkaaGreat.PSeg Go.Proofs.YtmgmdnmfalepkaaGreat.PEnc Go.Proofs.YtmgmdnmfalepkaaGreat.Build Go.Proofs.YtmgmdnmfalepkaaGreat.HelpBB Go.Proofs.YtmgmdnmfalepkaaGreat.HelpSeg Go.Proofs.YtmgmdnmfalepkaaGreat.Far
set_option linter.unusedVariables false
set_option linter.unusedSimpArgs false
theorem cells4 {w : World} {g : Nat} {t : TypeId} {a0 a1 a2 a3 : Value} (h : w.heap[g]? = some (.cells #[a0, a1, a2, a3] t (0, 0))) : (w.cell? ⟨g, 0, none⟩ = some a0 ∧ w.frozen? ⟨g, 0, none⟩ = false) ∧ (w.cell? ⟨g, 1, none⟩ = some a1 ∧ w.frozen? ⟨g, 1, none⟩ = false) ∧ (w.cell? ⟨g, 2, none⟩ = some a2 ∧ w.frozen? ⟨g, 2, none⟩ = false) ∧ (w.cell? ⟨g, 3, none⟩ = some a3 ∧ w.frozen? ⟨g, 3, none⟩ = false) := ⟨⟨(blk_cell h 0).trans rfl, blk_frozen h 0⟩, ⟨(blk_cell h 1).trans rfl, blk_frozen h 1⟩, ⟨(blk_cell h 2).trans rfl, blk_frozen h 2⟩, ⟨(blk_cell h 3).trans rfl, blk_frozen h 3⟩⟩
def mrgOk (a b : SegT) : Bool := valid a && (valid b && (decide (b.1 = a.1 + (a.2.1.length : Int)) && decide (totalB a.2.1 + totalB b.2.1 ≤ 20000)))
def mrg (a b : SegT) : SegT × Int := if mrgOk a b = true then (seg a.1 (a.2.1 ++ b.2.1), 0) else ((0, [], [], []), 4)
theorem mrg_bad {a b : SegT} (h : mrgOk a b = false) : mrg a b = ((0, [], [], []), 4) := by unfold mrg; rw [h]; rfl
theorem mrg_good {a b : SegT} (h : mrgOk a b = true) : mrg a b = (seg a.1 (a.2.1 ++ b.2.1), 0) := by unfold mrg; rw [h]; rfl
theorem seg_parts {w : World} {x : SegT} {v0 v1 v2 v3 : Value} (h : tSeg.K w x (.agg #[v0, v1, v2, v3])) : HelpBB.tBB.K w x.2.1 v1 ∧ HelpI.tI.K w x.2.2.1 v2 ∧ HelpII.tII.K w x.2.2.2 v3 := by
 obtain ⟨l, el, u0, r0, e0, g0, u1, r1, e1, g1, u2, r2, e2, g2, u3, e3, g3⟩ := h
 subst e3 e2 e1 e0
 injection el with el
 have el' := congrArg Array.toList el
 simp only [List.cons.injEq, and_true] at el'
 obtain ⟨rfl, rfl, rfl, rfl⟩ := el'
 exact ⟨g1, g2, g3⟩
theorem small_parts' {x : SegT} (h : HelpSeg.smallSeg x) : smallBB x.2.1 ∧ x.2.2.1.length ≤ 1048576 ∧ x.2.2.2.length + HelpII.totalI x.2.2.2 ≤ 1048576 := by
 have h' : (x.2.1.length + HelpBB.totalB x.2.1) + x.2.2.1.length + (x.2.2.2.length + HelpII.totalI x.2.2.2) ≤ 1048576 := h
 exact ⟨by show _ ≤ _; omega, zq1, zq1⟩
end Go.Proofs.YtmgmdnmfalepkaaGreat.Mrg
