/- Parts of the proof (see the row's own text): Bld, DecH, Far, SegS. -/
import Derived.Test.YtmgmdnmfalepkaaGreatG9
import Derived.Test.YtmgmdnmfalepkaaGreatG11
import Derived.Test.YtmgmdnmfalepkaaGreatG5
import Derived.Test.YtmgmdnmfalepkaaGreatG7
import Derived.Test.YtmgmdnmfalepkaaGreatG8
import Derived.Test.YtmgmdnmfalepkaaGreatG6
import Derived.Test.YtmgmdnmfalepkaaGreatG13
import Derived.Test.YtmgmdnmfalepkaaGreatG10
import Derived.Lib.AppendZerosOnto
import Derived.Lib.SliceRun
import Derived.Test.YtmgmdnmfalepkaaGreatG15
import Derived.Deep.RegionHeld3
namespace Go.Proofs.YtmgmdnmfalepkaaGreat.Bld
open Go.RowKit Go.Proofs.YtmgmdnmfalepkaaGreatW.PrintWords Go.Proofs.YtmgmdnmfalepkaaGreatW.PrintMore Go.Proofs.YtmgmdnmfalepkaaGreat.Kit Go.Proofs.YtmgmdnmfalepkaaGreat.PKit Go.Proofs.YtmgmdnmfalepkaaGreat.Ty Go.Proofs.YtmgmdnmfalepkaaGreat.PTri Go.Proofs.YtmgmdnmfalepkaaGreat.PSeg Go.Proofs.YtmgmdnmfalepkaaGreat.Build Go.Proofs.YtmgmdnmfalepkaaGreat.HelpBB
set_option linter.unusedVariables false
set_option linter.unusedSimpArgs false
theorem cells4 {w : World} {g : Nat} {t : TypeId} {a0 a1 a2 a3 : Value} (h : w.heap[g]? = some (.cells #[a0, a1, a2, a3] t (0, 0))) : (w.cell? ⟨g, 0, none⟩ = some a0 ∧ w.frozen? ⟨g, 0, none⟩ = false) ∧ (w.cell? ⟨g, 1, none⟩ = some a1 ∧ w.frozen? ⟨g, 1, none⟩ = false) ∧ (w.cell? ⟨g, 2, none⟩ = some a2 ∧ w.frozen? ⟨g, 2, none⟩ = false) ∧ (w.cell? ⟨g, 3, none⟩ = some a3 ∧ w.frozen? ⟨g, 3, none⟩ = false) := ⟨⟨(blk_cell h 0).trans rfl, blk_frozen h 0⟩, ⟨(blk_cell h 1).trans rfl, blk_frozen h 1⟩, ⟨(blk_cell h 2).trans rfl, blk_frozen h 2⟩, ⟨(blk_cell h 3).trans rfl, blk_frozen h 3⟩⟩
theorem infoI : (Tryz.prog.info? 3).map (fun i => (i.zero, i.size, i.bytes)) = some (some (.int .i64 0), 1, 8) := by kernel_rfl
theorem infoII : (Tryz.prog.info? 56).map (fun i => (i.zero, i.size, i.bytes)) = some (some (.slice none 0 0), 1, 24) := by kernel_rfl
theorem tri_calls (A : Option Addr) (c : Nat) (l : List Int) (w : World) (hr : Kd.C (Kd.int .u8) w A l.length l) (hc : l.length ≤ c) (hb : ∀ x ∈ l, 0 ≤ x ∧ x ≤ 255) (hs : l.length ≤ 1048576) :
    Calls Tryz.prog 57 #[.slice A l.length c] w fun e w' => ∃ v, e = .returned v ∧ Kd.R (Kd.int .i64) 3 w' w.heap.size (fun _ => True) v (ord (tris l)) ∧ Below w.heap.size w w' := by
  obtain ⟨k, hk⟩ := (PTri.spec_ev l hb hs).rounds
  exact L.spec_Trigrams.calls k A c l _ w hr hc hk
theorem copy_spec (A : Option Addr) (c : Nat) (ls : List (List Int)) (w : World) (hr : Kd.C kB w A ls.length ls) (hc : ls.length ≤ c) (hs : smallBB ls) :
    Calls Tryz.prog 33 #[.slice A ls.length c] w fun e w' => ∃ v, e = .returned v ∧ Kd.S kB 25 w' w.heap.size (fun _ => True) v ls ∧ Below w.heap.size w w' := by
  obtain ⟨k, hk⟩ := (copy_ev ls hs).rounds
  exact L.spec_l4copy.calls k A c ls _ w hr hc hk
theorem keys_spec (A : Option Addr) (c : Nat) (ls : List (List Int)) (w : World) (hr : Kd.C kB w A ls.length ls) (hc : ls.length ≤ c) (hb : Bytes ls) (hs : smallBB ls) :
    Calls Tryz.prog 56 #[.slice A ls.length c] w fun e w' => ∃ v, e = .returned v ∧ Kd.R (Kd.int .i64) 3 w' w.heap.size (fun _ => True) v (keys ls) ∧ Below w.heap.size w w' := by
  obtain ⟨k, hk⟩ := (keys_ev ls.length ls (Nat.le_refl _) hb hs).rounds
  exact L.spec_l4keys.calls k A c ls _ w hr hc hk
theorem inl_calls (A : Option Addr) (c : Nat) (T : List Int) (t : Int) (W : World) (hr : Kd.C (Kd.int .i64) W A T.length T) (hc : T.length ≤ c) (hl : T.length ≤ 1048576) :
    Calls Tryz.prog 58 #[.slice A T.length c, .int .i64 t] W fun e w' => e = .returned (.bool (decide (t ∈ T))) ∧ ∃ nd, w' = W.drewN nd := by
  obtain ⟨k, hk⟩ := (inList_ev T t (by omega)).rounds
  refine (L.spec_l2inList.calls k A c T t _ W hr hc hk).mono ?_
  rintro e w' ⟨rfl, hd⟩
  exact ⟨rfl, hd.out⟩
set_option maxRecDepth 100000 in
set_option maxHeartbeats 8000000 in
theorem bld_calls (b : Int) (A : Option Addr) (n c : Nat) (ls : List (List Int)) (hn : n = ls.length) (w : World) (hr : Kd.C kB w A ls.length ls) (hc : ls.length ≤ c) (hb : Bytes ls) (hs : smallBB ls) (b0 : 0 ≤ b) (b1 : b ≤ 1000) (hl : ls.length ≤ 1000) :
    Calls Tryz.prog 34 #[.int .i64 b, .slice A n c] w fun e w' => ∃ (A1 : Option Addr) (c1 : Nat) (A2 : Option Addr) (c2 : Nat) (A3 : Option Addr) (c3 : Nat), e = .returned (.agg #[.int .i64 b, .slice A1 n c1, .slice A2 (keys ls).length c2, .slice A3 (keys ls).length c3]) ∧ HelpBB.tBB.M w' w.heap.size (fun _ => True) ls (.slice A1 n c1) ∧ HelpI.tI.M w' w.heap.size (fun _ => True) (keys ls) (.slice A2 (keys ls).length c2) ∧ HelpII.tII.M w' w.heap.size (fun _ => True) ((keys ls).map (post b ls ls.length)) (.slice A3 (keys ls).length c3) ∧ Grew w w' := by
  subst hn
  have huI := Tryz.underlying59
  have HR := Aside0.mk hr
  have HY := Aside0.mk hb
  have hcp := fun (W : World) (hW : Below w.heap.size w W) => copy_spec A c ls W (Kd.C_below HR.out hW) hc hs
  have hky := fun (W : World) (hW : Below w.heap.size w W) => keys_spec A c ls W (Kd.C_below HR.out hW) hc HY.out hs
  have HCP := Aside0.mk hcp
  have HKY := Aside0.mk hky
  have HSM := Aside0.mk hs
  clear hr hb hcp hky hs
  go_enter Tryz.func34, Tryz.ntmps34
  go_wp2_with (((with_reducible refine gate_dst (N := 4) rfl ?_); refine box_event ?hg (N := 4) ?hd (cs := #[.int .i64 0, .slice none 0 0, .slice none 0 0, .slice none 0 0]) (t := 59) ?hr ?_; (case hd => rfl); (case hg => rfl); (case hr => first | (go_simp; done) | (go_simp; rfl)); intro gr hg_ w1 hbx hbb; have BKgr := Aside0.mk hbx; have GEgr := Aside0.mk (show w.heap.size ≤ gr from Nat.le_of_eq hg_.symm); have GLgr := Aside0.mk (blk_lt hbx); have HBw1 := Aside0.mk hbb; clear hg_ hbb; obtain ⟨⟨hgrc0, hgrf0⟩, ⟨hgrc1, hgrf1⟩, ⟨hgrc2, hgrf2⟩, ⟨hgrc3, hgrf3⟩⟩ := cells4 hbx; clear hbx))
  go_at_call 33
  refine (HCP.out _ HBw1.out).mono ?_
  rintro e w2 ⟨v2, rfl, hS2, hb2⟩
  obtain ⟨A1, c1, rfl⟩ := Kd.S_slice hS2
  have HC2 := Aside0.mk hS2
  have HB12 := Aside0.mk hb2
  have HB2 := Aside0.mk (show Below w.heap.size w w2 from grew_trans HBw1.out hb2)
  replace BKgr := Aside0.mk (blk_below BKgr.out hb2)
  clear hgrc0 hgrf0 hgrc1 hgrf1 hgrc2 hgrf2 hgrc3 hgrf3
  clear hS2 hb2
  go_wp2_with fail
  obtain ⟨gs, hgs⟩ : ∃ g_, g_ = w2.heap.size := ⟨_, rfl⟩
  obtain ⟨w3, hw3⟩ : ∃ w_, w_ = w2.alloc (.cells #[.int .i64 b, .slice A1 ls.length c1, .slice none 0 0, .slice none 0 0] 59 (0, 0)) := ⟨_, rfl⟩
  rw [← hw3, ← hgs]
  have BKgs := Aside0.mk (show w3.heap[gs]? = some (.cells #[.int .i64 b, .slice A1 ls.length c1, .slice none 0 0, .slice none 0 0] 59 (0, 0)) from by rw [hw3, hgs]; exact blk_new w2 _)
  have hb3 : Below w2.heap.size w2 w3 := by rw [hw3]; exact below_alloc (Below.refl _ _) _
  have GS := Aside0.mk (show w2.heap.size ≤ gs from Nat.le_of_eq hgs.symm)
  have HB23 := Aside0.mk hb3
  have HB3 := Aside0.mk (show Below w.heap.size w w3 from grew_trans HB2.out hb3)
  replace BKgr := Aside0.mk (blk_below BKgr.out hb3)
  have GSL := Aside0.mk (blk_lt BKgs.out)
  have NEGR := Aside0.mk (show gr ≠ gs from fun e => by have h1 := GLgr.out; have h2 := GS.out; have h3 := HB12.out.size; omega)
  clear hgs hw3 hb3
  go_at_call 56
  refine (HKY.out w3 HB3.out).mono ?_
  rintro e w4 ⟨v4, rfl, hR4, hb4⟩
  obtain ⟨A2, c2, rfl⟩ := Kd.R_slice hR4
  replace BKgr := Aside0.mk (blk_below BKgr.out hb4)
  replace BKgs := Aside0.mk (blk_below BKgs.out hb4)
  have HB34 := Aside0.mk hb4
  have HR4 := Aside0.mk hR4
  have HB4 := Aside0.mk (show Below w.heap.size w w4 from grew_trans HB3.out hb4)
  clear hR4 hb4
  obtain ⟨⟨sc0, sf0⟩, ⟨sc1, sf1⟩, ⟨sc2, sf2⟩, ⟨sc3, sf3⟩⟩ := cells4 BKgs.out
  go_wp2_with fail
  obtain ⟨w5, hw5⟩ : ∃ w_, w_ = w4.setCell ⟨gs, 2, none⟩ (.slice A2 (keys ls).length c2) := ⟨_, rfl⟩
  rw [← hw5]
  have HZ45 := Aside0.mk (show w5.heap.size = w4.heap.size from by rw [hw5]; simp [World.setCell])
  have HB45 := Aside0.mk (show Below w.heap.size w w5 from by rw [hw5]; exact below_set HB4.out (Nat.le_trans HB2.out.size GS.out))
  replace BKgs := Aside0.mk (show w5.heap[gs]? = some (.cells #[.int .i64 b, .slice A1 ls.length c1, .slice A2 (keys ls).length c2, .slice none 0 0] 59 (0, 0)) from by rw [hw5]; exact blk_put (cs := #[.int .i64 b, .slice A1 ls.length c1, .slice none 0 0, .slice none 0 0]) BKgs.out 2 _ rfl)
  replace BKgr := Aside0.mk (show w5.heap[gr]? = some (.cells #[.int .i64 0, .slice none 0 0, .slice none 0 0, .slice none 0 0] 59 (0, 0)) from by rw [hw5]; exact blk_far BKgr.out NEGR.out _)
  have HZ5 := Aside0.mk (show w3.heap.size ≤ w5.heap.size from by have h1 := HZ45.out; have h2 := HB34.out.size; omega)
  replace HC2 := Aside0.mk (show HelpBB.tBB.M w5 w.heap.size (fun k => gr < k ∧ k < gs) ls (.slice A1 ls.length c1) from by
    rw [hw5]
    exact HelpBB.tBB.M_mono (fun k hk => by have h1 := hk.2.2; have h2 := GS.out; have h3 := hk.2.1; have h4 := GLgr.out; exact ⟨by omega, by omega⟩) (Ty.M_set (T := HelpBB.tBB) (Ty.M_below (T := HelpBB.tBB) (HelpBB.tBB.M_lower HBw1.out.size (HelpBB.tBB.M_bound HC2.out)) (grew_trans HB23.out HB34.out)) (fun k hk e => by have h1 := hk.2.2; have h2 := GS.out; omega) _))
  replace HR4 := Aside0.mk (show HelpI.tI.M w5 w.heap.size (fun k => gs < k ∧ k < w5.heap.size) (keys ls) (.slice A2 (keys ls).length c2) from by
    have hz := HZ45.out
    rw [hz, hw5]
    exact HelpI.tI.M_mono (fun k hk => by have h1 := hk.2.1; have h2 := GSL.out; have h3 := hk.2.2; exact ⟨by omega, h3⟩) (Ty.M_set (T := HelpI.tI) (HelpI.tI.M_lower HB3.out.size (HelpI.tI.M_bound HR4.out)) (fun k hk e => by have h1 := hk.2.1; have h2 := GSL.out; omega) _))
  clear hw5 sc0 sf0 sc1 sf1 sc2 sf2 sc3 sf3
  go_loopg [6, 7] ls.length (fun gg s6 s7 wr => ∃ i : Nat, i ≤ ls.length ∧ ls.length - i ≤ gg ∧ s7 = .int .i64 (i : Int) ∧ Aside0 (Kd.S HelpII.kI 56 wr w5.heap.size (fun _ => True) s6 ((ls.take i).map fun l => ord (tris l))) ∧ Aside0 (Below w5.heap.size w5 wr))
  case atStart => exact ⟨0, by omega, by omega, rfl, ⟨Kd.S_nil _ _ _ _ _⟩, ⟨Below.refl _ _⟩⟩
  case round =>
    obtain ⟨i, hi, hg, rfl, HS, HB⟩ := hrel
    by_cases hlt : i < ls.length
    · have hltz : (i : Int) < (ls.length : Int) := by omega
      have ht := getD_len ls i
      have hsm : ls.length + totalB ls ≤ 1048576 := HSM.out
      have HBT := Aside0.mk (show Below w.heap.size w wr from grew_trans HB45.out HB.out)
      obtain ⟨ad, u, rfl, hcell0, hK⟩ := get_one (d := kB) rfl HR.out [] i hlt
      obtain ⟨A', c', e', hc', hr'⟩ := hK
      obtain rfl : u = .slice A' (ls.getD i []).length c' := by injection e'
      have hcell : wr.cell? (ad.add i) = some (.slice A' (ls.getD i []).length c') := (HBT.out.cell (World.block_lt_of_cell? w _ hcell0)).trans hcell0
      have htr := tri_calls A' c' (ls.getD i []) wr (Kd.C_below hr' HBT.out) hc' (getD_bytes HY.out i) (by omega)
      have hts : (ls.take (i + 1)).map (fun l => ord (tris l)) = (ls.take i).map (fun l => ord (tris l)) ++ [ord (tris (ls.getD i []))] := by rw [take_snoc ls i hlt, List.map_append]; rfl
      have hol : (ord (tris (ls.getD i []))).length ≤ 1048576 := by have h1 := ord_len (tris (ls.getD i [])); have h2 := tris_length (ls.getD i []); omega
      have HTR := Aside0.mk htr
      have HTS := Aside0.mk hts
      clear hr' e' hcell0 htr hts hsm
      generalize ord (tris (ls.getD i [])) = T at HTR HTS hol
      generalize ls.getD i [] = l at ht hcell hc' HTR
      go_wp2_with (first | (go_at_call 57; refine HTR.out.mono ?_; rintro e w7 ⟨v7, rfl, hR7, hb7⟩; obtain ⟨Av, cv, rfl⟩ := Kd.R_slice hR7) | (at_builtin; refine Kd.S_append HelpII.kI (w0 := w5) w5.heap.size rfl (.tmp 24) (.tmp 30) 57 56 (.slice none 0 0) 24 rfl Tryz.underlying57 infoII rfl (by decide) (by omega) u6 ((ls.take i).map fun l => ord (tris l)) T [.slice Av T.length cv] (fun _ => True) (fun k_ => some k_ = (.slice Av T.length cv : Value).ownBlock) rfl rfl ?aP ?aK (fun _ _ => trivial) ?aO ?aB ?aS ?aL ?_; (case aP => exact Kd.M_row (Kd.R_lower (Kd.R_tight rfl hR7) HB.out.size)); (case aK => exact fun k hk => ⟨trivial, fun e => by have h1 := Kd.R_base hR7 k hk.symm; have h2 := Kd.S_lt HS.out k e.symm; omega⟩); (case aO => exact Kd.S_mono (Kd.S_old HS.out hb7) (fun k hk => ⟨trivial, fun e => by have h1 := Kd.R_base hR7 k e.symm; have h2 := hk.2; omega⟩)); (case aB => exact grew_trans HB.out hb7); (case aS => exact (grew_trans HB.out hb7).size); (case aL => (rw [List.length_map, List.length_take]; omega)); intro v8 w8 hO8 hB8 hg8 hat8))
      go_roundg (ls.length - (i + 1))
      case measure => omega
      case rel => exact ⟨i + 1, by omega, by omega, by go_num, ⟨by rw [HTS.out]; exact hO8⟩, ⟨hB8⟩⟩
    · have hltz : ¬ (i : Int) < (ls.length : Int) := by omega
      obtain rfl : i = ls.length := by omega
      have hS := HS.out
      rw [List.take_length] at hS
      obtain ⟨A4, c4, rfl⟩ := Kd.S_slice hS
      have HT := Aside0.mk (show HelpII.tII.M wr w5.heap.size (fun k => w5.heap.size ≤ k ∧ k < wr.heap.size) (ls.map fun l => ord (tris l)) (.slice A4 (ls.map fun l => ord (tris l)).length c4) from HelpII.tII.M_mono (fun k hk => ⟨hk.2.1, hk.2.2⟩) (HelpII.tII.M_bound hS))
      rename World => wP
      replace BKgs := Aside0.mk (blk_below BKgs.out HB.out)
      replace BKgr := Aside0.mk (blk_below BKgr.out HB.out)
      replace HC2 := Aside0.mk (Ty.M_below (T := HelpBB.tBB) HC2.out HB.out)
      replace HR4 := Aside0.mk (Ty.M_below (T := HelpI.tI) HR4.out HB.out)
      have HBP := Aside0.mk (show Below w.heap.size w wP from grew_trans HB45.out HB.out)
      have HZP := Aside0.mk HB.out.size
      have GSP := Aside0.mk (blk_lt BKgs.out)
      have hkl : (keys ls).length ≤ 1048576 := by have h1 := keys_len ls; have h2 : ls.length + totalB ls ≤ 1048576 := HSM.out; omega
      clear hS HS HB
      go_wp2_with fail
      go_loopg [8] (keys ls).length (fun gg s8 wr => ∃ (j : Nat) (Ap : Option Addr) (cp : Nat), j ≤ (keys ls).length ∧ (keys ls).length - j ≤ gg ∧ s8 = .int .i64 (j : Int) ∧ Aside0 (wr.heap[gs]? = some (.cells #[.int .i64 b, .slice A1 ls.length c1, .slice A2 (keys ls).length c2, .slice Ap j cp] 59 (0, 0))) ∧ Aside0 (Kd.S HelpII.kI 56 wr w.heap.size (fun k => wP.heap.size ≤ k) (.slice Ap j cp) (((keys ls).take j).map (post b ls ls.length))) ∧ Aside0 (∀ k, (Value.slice Ap j cp).ownBlock = some k → wP.heap.size ≤ k) ∧ Aside0 (Kept wP wr (fun k => k = gs)) ∧ Aside0 (Below w.heap.size w wr))
      case atStart => exact ⟨0, none, 0, by omega, by omega, rfl, BKgs, ⟨Kd.S_nil _ _ _ _ _⟩, ⟨fun k hk => by simp [Value.ownBlock] at hk⟩, ⟨Kept.refl _ _⟩, HBP⟩
      case round =>
        obtain ⟨j, Ap, cp, hj, hg, rfl, HG, HS, HO, HK, HB⟩ := hrel
        by_cases hlj : j < (keys ls).length
        · have hljz : (j : Int) < ((keys ls).length : Int) := by omega
          rename World => wq
          have hz9 := HK.out.1
          have HKC := Aside0.mk (Kd.R_reads' (show Kd.R (Kd.int .i64) 3 wq w.heap.size _ (.slice A2 (keys ls).length c2) (keys ls) from Ty.M_kept (T := HelpI.tI) HR4.out HK.out (fun k hk e => by have h1 := hk.1; omega))).2.2
          have HTC := Aside0.mk (Kd.S_reads' (show Kd.S HelpII.kI 56 wq w5.heap.size _ (.slice A4 (ls.map fun l => ord (tris l)).length c4) (ls.map fun l => ord (tris l)) from Ty.M_kept (T := HelpII.tII) HT.out HK.out (fun k hk e => by have h1 := hk.1; have h2 := GSL.out; have h3 := HZ5.out; omega))).2.2
          obtain ⟨adk, uk, rfl, hck, hKk⟩ := get_one (d := Kd.int .i64) rfl HKC.out 0 j hlj
          obtain rfl : uk = .int .i64 ((keys ls).getD j 0) := by cases hKk; rfl
          have HCK := Aside0.mk hck
          have HTK := Aside0.mk (show ((keys ls).take (j + 1)).map (post b ls ls.length) = ((keys ls).take j).map (post b ls ls.length) ++ [post b ls ls.length ((keys ls).getD j 0)] from by rw [List.take_succ_eq_append_getElem hlj, List.map_append]; simp [List.getD, List.getElem?_eq_getElem hlj])
          clear hck hKk HKC
          generalize (keys ls).getD j 0 = t at HCK HTK
          obtain ⟨⟨qc0, qf0⟩, ⟨qc1, qf1⟩, ⟨qc2, qf2⟩, ⟨qc3, qf3⟩⟩ := cells4 HG.out
          go_wp2_with fail
          clear qc0 qf0 qc1 qf1 qc2 qf2 qc3 qf3
          go_loopg [9, 10] ls.length (fun gg s9 s10 wr => ∃ i : Nat, i ≤ ls.length ∧ ls.length - i ≤ gg ∧ s10 = .int .i64 (i : Int) ∧ Aside0 (Kd.R (Kd.int .i64) 3 wr wq.heap.size (fun _ => True) s9 (post b ls i t)) ∧ Aside0 (Below wq.heap.size wq wr))
          case atStart => exact ⟨0, by omega, by omega, rfl, ⟨Kd.R_nil _ _ _ _ _⟩, ⟨Below.refl _ _⟩⟩
          case round =>
            obtain ⟨i, hi, hg, rfl, HR, HBI⟩ := hrel
            rename World => wi
            have BI := Aside0.mk (blk_below HG.out HBI.out)
            by_cases hlt : i < ls.length
            · have hltz : (i : Int) < (ls.length : Int) := by omega
              obtain ⟨adt, ut, rfl, hct, hKt⟩ := get_one (d := HelpII.kI) rfl HTC.out [] i (by rw [List.length_map]; exact hlt)
              obtain ⟨A', c', e', hc', hr'⟩ := hKt
              obtain rfl : ut = .slice A' ((ls.map fun l => ord (tris l)).getD i []).length c' := by injection e'
              have hT : (ls.map fun l => ord (tris l)).getD i [] = ord (tris (ls.getD i [])) := by simp [List.getD, List.getElem?_eq_getElem hlt]
              have hdec : decide (t ∈ (ls.map fun l => ord (tris l)).getD i []) = hasT ls t i := by
                rw [hT]
                unfold hasT
                exact decide_eq_decide.2 (mem_ord _ _)
              have htl : ((ls.map fun l => ord (tris l)).getD i []).length ≤ 1048576 := by
                have hsm : ls.length + totalB ls ≤ 1048576 := HSM.out
                have h1 := ord_len (tris (ls.getD i [])); have h2 := tris_length (ls.getD i []); have h3 := getD_len ls i
                rw [hT]; omega
              have HPS := Aside0.mk (post_succ b ls i t)
              generalize (ls.map fun l => ord (tris l)).getD i [] = T at hct hc' hr' hdec htl
              have hcell : wi.cell? (adt.add i) = some (.slice A' T.length c') := (HBI.out.cell (World.block_lt_of_cell? wq _ hct)).trans hct
              have hck : wi.cell? (adk.add j) = some (.int .i64 t) := (HBI.out.cell (World.block_lt_of_cell? wq _ HCK.out)).trans HCK.out
              generalize hasT ls t i = hh at hdec HPS
              have HIN := Aside0.mk (fun (W : World) (hW : Below wi.heap.size wi W) => show Calls Tryz.prog 58 #[.slice A' T.length c', .int .i64 t] W fun e w' => e = .returned (.bool hh) ∧ ∃ nd, w' = W.drewN nd from (inl_calls A' c' T t W (Kd.C_below (Kd.C_below hr' HBI.out) hW) hc' htl).mono (by rintro e w' ⟨rfl, h⟩; exact ⟨by rw [hdec], h⟩))
              clear hr' e' hT htl hdec
              obtain ⟨A9, c9, rfl⟩ := Kd.R_slice HR.out
              have hpl := post_len b ls i t
              have HPL := Aside0.mk (show (post b ls i t).length ≤ 1000 from by omega)
              clear hpl
              generalize post b ls i t = P at HR HPS HPL
              have hwb : wrap64 (b + (i : Int)) = b + (i : Int) := wrap_in (by omega)
              have HWB := Aside0.mk hwb
              clear hwb
              obtain ⟨⟨pc0, pf0⟩, ⟨pc1, pf1⟩, ⟨pc2, pf2⟩, ⟨pc3, pf3⟩⟩ := cells4 BI.out
              cases hh with
              | true =>
                go_wp2_with fail
                go_quiet ((go_at_call 58; (with_reducible refine (HIN.out _ ?s1).mono ?_); (case s1 => repeat (first | exact Below.refl _ _ | apply below_alloc | apply below_drew1 | apply pw_below_drewN)); rintro e w' ⟨rfl, ⟨nd, rfl⟩⟩; (try first | exact ⟨rfl, _, World.drewN_drewN _ _ _⟩ | exact ⟨rfl, _, Eq.trans (World.drewN_drewN _ _ _) (congrArg (World.drewN _) (Nat.add_assoc _ _ _))⟩)))
                go_wp2_with (at_builtin; refine Kd.R_append (Kd.int .i64) (w0 := wq) wq.heap.size rfl (.tmp 55) (.tmp 59) 56 3 (.int .i64 0) 8 rfl Tryz.underlying56 infoI rfl (by decide) (by omega) (.slice A9 P.length c9) P (b + (i : Int)) [.int .i64 (b + (i : Int))] (fun _ => True) (fun _ => False) rfl ?aQ ?aP (fun _ hk => hk.elim) (fun _ _ => trivial) ?aO ?aB ?aS ?aL ?_; (case aQ => (try rw [← HWB.out]); rfl); (case aP => rfl); (case aO => apply Kd.R_drewN; exact HR.out); (case aB => apply pw_below_drewN; exact HBI.out); (case aS => exact below_size (by apply pw_below_drewN; exact HBI.out)); (case aL => have := HPL.out; omega); intro v7 w7 hO7 hB7 hg7 hat7)
                go_roundg (ls.length - (i + 1))
                case measure => omega
                case rel => exact ⟨i + 1, by omega, by omega, by go_num, ⟨by rw [HPS.out]; simpa using hO7⟩, ⟨hB7⟩⟩
              | false =>
                go_wp2_with fail
                go_quiet ((go_at_call 58; (with_reducible refine (HIN.out _ ?s1).mono ?_); (case s1 => repeat (first | exact Below.refl _ _ | apply below_alloc | apply below_drew1 | apply pw_below_drewN)); rintro e w' ⟨rfl, ⟨nd, rfl⟩⟩; (try first | exact ⟨rfl, _, World.drewN_drewN _ _ _⟩ | exact ⟨rfl, _, Eq.trans (World.drewN_drewN _ _ _) (congrArg (World.drewN _) (Nat.add_assoc _ _ _))⟩)))
                go_wp2_with fail
                go_roundg (ls.length - (i + 1))
                case measure => omega
                case rel => exact ⟨i + 1, by omega, by omega, by go_num, ⟨by rw [HPS.out]; simp only [Bool.false_eq_true, if_false, List.append_nil]; apply Kd.R_drewN; exact HR.out⟩, ⟨by apply pw_below_drewN; exact HBI.out⟩⟩
            · have hltz : ¬ (i : Int) < (ls.length : Int) := by omega
              obtain rfl : i = ls.length := by omega
              obtain ⟨A9, c9, rfl⟩ := Kd.R_slice HR.out
              have HSL := Aside0.mk (show (post b ls ls.length t).length ≤ 1000 from by have h1 := post_len b ls ls.length t; omega)
              have HSQ := Aside0.mk (show HelpII.tII.M wi w.heap.size (fun k => wP.heap.size ≤ k ∧ k < wq.heap.size) (((keys ls).take j).map (post b ls ls.length)) (.slice Ap j cp) from HelpII.tII.M_mono (fun k hk => ⟨hk.1, hk.2.2⟩) (Ty.M_below (T := HelpII.tII) (HelpII.tII.M_bound HS.out) HBI.out))
              have HOL := Aside0.mk (fun k (h : (Value.slice Ap j cp).ownBlock = some k) => Kd.S_lt HS.out k h)
              have HPB := Aside0.mk (fun k (h : (Value.slice A9 (post b ls ls.length t).length c9).ownBlock = some k) => Kd.R_base HR.out k h)
              obtain ⟨⟨pc0, pf0⟩, ⟨pc1, pf1⟩, ⟨pc2, pf2⟩, ⟨pc3, pf3⟩⟩ := cells4 BI.out
              go_wp2_with (at_builtin; refine Kd.S_append HelpII.kI (w0 := w) w.heap.size rfl (.tmp 62) (.tmp 64) 57 56 (.slice none 0 0) 24 rfl Tryz.underlying57 infoII rfl (by decide) (by omega) (.slice Ap j cp) (((keys ls).take j).map (post b ls ls.length)) (post b ls ls.length t) [.slice A9 (post b ls ls.length t).length c9] (fun k => wP.heap.size ≤ k) (fun k_ => some k_ = (.slice A9 (post b ls ls.length t).length c9 : Value).ownBlock) rfl rfl ?aP ?aK ?aF ?aO ?aB ?aS ?aL ?_; (case aP => exact Kd.M_row (Kd.R_lower (Kd.R_tight rfl HR.out) (by have h1 := HB.out.size; omega))); (case aK => exact fun k hk => ⟨by have h1 := HPB.out k hk.symm; omega, fun e => by have h1 := HPB.out k hk.symm; have h2 := HOL.out k e.symm; omega⟩); (case aF => exact fun k hk => by have h1 := HBI.out.size; omega); (case aO => exact HelpII.tII.M_mono (fun k hk => ⟨hk.1, fun e => by have h1 := HPB.out k e.symm; have h2 := hk.2; omega⟩) HSQ.out); (case aB => exact grew_trans HB.out HBI.out); (case aS => exact (grew_trans HB.out HBI.out).size); (case aL => (rw [List.length_map, List.length_take]; omega)); intro v6 w6 hO6 hB6 hg6 hat6; obtain ⟨A6, c6, e6⟩ := Kd.S_slice hO6; rw [show (((keys ls).take j).map (post b ls ls.length) ++ [post b ls ls.length t]).length = j + 1 from by rw [List.length_append, List.length_map, List.length_take, List.length_singleton]; omega] at e6; subst e6; have BK6 := Aside0.mk (blk_grown (g := gs) BI.out hg6 (fun e => by have h1 := HO.out _ e.symm; have h2 := GSP.out; omega)); obtain ⟨⟨rc0, rf0⟩, ⟨rc1, rf1⟩, ⟨rc2, rf2⟩, ⟨rc3, rf3⟩⟩ := cells4 BK6.out; have HO6 := Aside0.mk hO6; have HB6 := Aside0.mk hB6; have HG6 := Aside0.mk hg6; clear hO6 hB6 hg6 hat6 pc0 pf0 pc1 pf1 pc2 pf2 pc3 pf3)
              have hzq := HK.out.1
              have hzi := HBI.out.size
              go_roundg ((keys ls).length - (j + 1))
              case measure => omega
              case rel =>
                refine ⟨j + 1, A6, c6, by omega, by omega, by go_num, ⟨blk_put (cs := #[.int .i64 b, .slice A1 ls.length c1, .slice (some adk) (keys ls).length c2, .slice Ap j cp]) BK6.out 3 _ rfl⟩, ⟨?_⟩, ⟨fun k hk => (Kd.S_R HO6.out).1 k hk⟩, ⟨?_⟩, ⟨below_set HB6.out (Nat.le_trans HB2.out.size GS.out)⟩⟩
                · rw [HTK.out]
                  exact Ty.M_set (T := HelpII.tII) HO6.out (fun k hk e => by have h1 : wP.heap.size ≤ k := hk; have h2 := GSP.out; omega) _
                · exact ⟨by have h1 := HG6.out.size; simp [World.setCell]; omega, fun k hk hne => (Below.heap_setCell w6 ⟨gs, 3, none⟩ _ k hne).trans ((HG6.out.block k (by omega) (fun e => by have h1 := HO.out _ e.symm; omega)).trans ((HBI.out.block k (by omega)).trans (HK.out.2 k hk hne)))⟩
        · have hljz : ¬ (j : Int) < ((keys ls).length : Int) := by omega
          obtain rfl : j = (keys ls).length := by omega
          have hS := HS.out
          rw [List.take_length] at hS
          have HS9 := Aside0.mk hS
          have BR9 := Aside0.mk (blk_kept BKgr.out HK.out NEGR.out)
          clear hS HS
          obtain ⟨⟨pc0, pf0⟩, ⟨pc1, pf1⟩, ⟨pc2, pf2⟩, ⟨pc3, pf3⟩⟩ := cells4 HG.out
          obtain ⟨⟨rc0, rf0⟩, ⟨rc1, rf1⟩, ⟨rc2, rf2⟩, ⟨rc3, rf3⟩⟩ := cells4 BR9.out
          have hz9 := HK.out.1
          go_wp2
          refine bodyPost_ret (results_cell_row rfl _ _ gr 59 #[.int .i64 b, .slice A1 ls.length c1, .slice A2 (keys ls).length c2, .slice Ap (keys ls).length cp] (0, 0) _ rfl (by (with_reducible repeat (first | refine blk_drewN ?_ _ | refine blk_drew ?_ | refine blk_alloc ?_ _)); refine blk_put (cs := #[.int .i64 b, .slice A1 ls.length c1, .slice A2 (keys ls).length c2, .slice none 0 0]) ?_ 3 _ rfl; (with_reducible repeat (first | refine blk_drewN ?_ _ | refine blk_drew ?_ | refine blk_alloc ?_ _)); refine blk_put (cs := #[.int .i64 b, .slice A1 ls.length c1, .slice none 0 0, .slice none 0 0]) ?_ 2 _ rfl; (with_reducible repeat (first | refine blk_drewN ?_ _ | refine blk_drew ?_ | refine blk_alloc ?_ _)); refine blk_put (cs := #[.int .i64 b, .slice none 0 0, .slice none 0 0, .slice none 0 0]) ?_ 1 _ rfl; (with_reducible repeat (first | refine blk_drewN ?_ _ | refine blk_drew ?_ | refine blk_alloc ?_ _)); refine blk_put (cs := #[.int .i64 0, .slice none 0 0, .slice none 0 0, .slice none 0 0]) ?_ 0 _ rfl; (with_reducible repeat (first | refine blk_drewN ?_ _ | refine blk_drew ?_ | refine blk_alloc ?_ _)); exact BR9.out) Tryz.underlying59 rfl (by kernel_rfl)) rfl ?_
          refine ⟨A1, c1, A2, c2, Ap, cp, rfl, ?_, ?_, ?_, below_set (below_set (below_set (below_set (HB.out) GEgr.out) GEgr.out) GEgr.out) GEgr.out⟩
          · exact HelpBB.tBB.M_mono (fun _ _ => trivial) ((Ty.M_set (T := HelpBB.tBB) (Ty.M_set (T := HelpBB.tBB) (Ty.M_set (T := HelpBB.tBB) (Ty.M_set (T := HelpBB.tBB) (Ty.M_kept (T := HelpBB.tBB) HC2.out HK.out (fun k hk e => by have h1 := hk.2; omega)) (fun k hk e => by have h1 := hk.1; omega) _) (fun k hk e => by have h1 := hk.1; omega) _) (fun k hk e => by have h1 := hk.1; omega) _) (fun k hk e => by have h1 := hk.1; omega) _))
          · exact HelpI.tI.M_mono (fun _ _ => trivial) ((Ty.M_set (T := HelpI.tI) (Ty.M_set (T := HelpI.tI) (Ty.M_set (T := HelpI.tI) (Ty.M_set (T := HelpI.tI) (Ty.M_kept (T := HelpI.tI) HR4.out HK.out (fun k hk e => by have h1 := hk.1; omega)) (fun k hk e => by have h1 := hk.1; have h2 := GLgr.out; have h3 := GS.out; have h4 := HB12.out.size; omega) _) (fun k hk e => by have h1 := hk.1; have h2 := GLgr.out; have h3 := GS.out; have h4 := HB12.out.size; omega) _) (fun k hk e => by have h1 := hk.1; have h2 := GLgr.out; have h3 := GS.out; have h4 := HB12.out.size; omega) _) (fun k hk e => by have h1 := hk.1; have h2 := GLgr.out; have h3 := GS.out; have h4 := HB12.out.size; omega) _))
          · exact HelpII.tII.M_mono (fun _ _ => trivial) ((Ty.M_set (T := HelpII.tII) (Ty.M_set (T := HelpII.tII) (Ty.M_set (T := HelpII.tII) (Ty.M_set (T := HelpII.tII) (HelpII.tII.M_mono (fun _ h => h) HS9.out) (fun k hk e => by have h1 : wP.heap.size ≤ k := hk; have h2 := GSP.out; have h3 := GLgr.out; have h4 := GS.out; have h5 := HB12.out.size; omega) _) (fun k hk e => by have h1 : wP.heap.size ≤ k := hk; have h2 := GSP.out; have h3 := GLgr.out; have h4 := GS.out; have h5 := HB12.out.size; omega) _) (fun k hk e => by have h1 : wP.heap.size ≤ k := hk; have h2 := GSP.out; have h3 := GLgr.out; have h4 := GS.out; have h5 := HB12.out.size; omega) _) (fun k hk e => by have h1 : wP.heap.size ≤ k := hk; have h2 := GSP.out; have h3 := GLgr.out; have h4 := GS.out; have h5 := HB12.out.size; omega) _))
end Go.Proofs.YtmgmdnmfalepkaaGreat.Bld

namespace Go.Proofs.YtmgmdnmfalepkaaGreat.SegS
open Go.RowKit Go.Proofs.YtmgmdnmfalepkaaGreatW.PrintWords Go.Proofs.YtmgmdnmfalepkaaGreatW.PrintMore Go.Proofs.YtmgmdnmfalepkaaGreat.Kit Go.Proofs.YtmgmdnmfalepkaaGreat.PKit Go.Proofs.YtmgmdnmfalepkaaGreat.Ty Go.Proofs.YtmgmdnmfalepkaaGreat.PSeg Go.Proofs.YtmgmdnmfalepkaaGreat.PEnc Go.Proofs.YtmgmdnmfalepkaaGreat.PDec Go.Proofs.YtmgmdnmfalepkaaGreat.PSta Go.Proofs.YtmgmdnmfalepkaaGreat.HelpBB Go.Proofs.YtmgmdnmfalepkaaGreat.HelpSeg
open Go.Proofs.YtmgmdnmfalepkaaGreat.Build hiding code ans
open Go.Proofs.YtmgmdnmfalepkaaGreat.Sto
set_option linter.unusedVariables false
set_option linter.unusedSimpArgs false
theorem below_of_drawn {w w' : World} (h : Drawn0 w w') : Below w.heap.size w w' := by first | exact h.below | exact pw_grow (by first | exact h | exact h.below)
theorem mk_M {w : World} {base : Nat} {b : Int} {ls : List (List Int)} {A1 A2 A3 : Option Addr} {c1 c2 c3 : Nat} (h1 : HelpBB.tBB.M w base (fun _ => True) ls (.slice A1 ls.length c1)) (h2 : HelpI.tI.M w base (fun _ => True) (keys ls) (.slice A2 (keys ls).length c2)) (h3 : HelpII.tII.M w base (fun _ => True) ((keys ls).map (post b ls ls.length)) (.slice A3 (keys ls).length c3)) :
    kSeg.M w base (fun _ => True) (seg b ls) [.int .i64 b, .slice A1 ls.length c1, .slice A2 (keys ls).length c2, .slice A3 (keys ls).length c3] :=
  ⟨[_], [_, _, _], rfl, rfl, [_], [_, _], rfl, ⟨_, rfl, Kd.S_R h1⟩, [_], [_], rfl, ⟨_, rfl, h2⟩, ⟨_, rfl, Kd.S_R h3⟩⟩
theorem zero_M (w : World) (base : Nat) : kSeg.M w base (fun _ => True) (0, [], [], []) [.int .i64 0, .slice none 0 0, .slice none 0 0, .slice none 0 0] :=
  ⟨[_], [_, _, _], rfl, rfl, [_], [_, _], rfl, ⟨_, rfl, Kd.R_nil _ _ _ _ _⟩, [_], [_], rfl, ⟨_, rfl, Kd.R_nil _ _ _ _ _⟩, ⟨_, rfl, Kd.R_nil _ _ _ _ _⟩⟩
theorem bld_good (b : Int) (A : Option Addr) (n c : Nat) (ls : List (List Int)) (hn : n = ls.length) (w : World) (hr : Kd.C kB w A ls.length ls) (hc : ls.length ≤ c) (hb : Bytes ls) (hs : smallBB ls) (hf : fits b ls = true) :
    Calls Tryz.prog 34 #[.int .i64 b, .slice A n c] w fun e w' => ∃ (B1 : Option Addr) (d1 : Nat) (B2 : Option Addr) (d2 : Nat) (B3 : Option Addr) (d3 : Nat), e = .returned (.agg #[.int .i64 b, .slice B1 n d1, .slice B2 (keys ls).length d2, .slice B3 (keys ls).length d3]) ∧ kSeg.M w' w.heap.size (fun _ => True) (seg b ls) [.int .i64 b, .slice B1 n d1, .slice B2 (keys ls).length d2, .slice B3 (keys ls).length d3] ∧ Grew w w' := by
  obtain ⟨f1, f2, f3, f4, f5, f6⟩ := fits_parts hf
  refine (Bld.bld_calls b A n c ls hn w hr hc hb hs f1 f2 (by omega)).mono ?_
  subst hn
  rintro e w' ⟨A1, c1, A2, c2, A3, c3, rfl, m1, m2, m3, hg⟩
  exact ⟨A1, c1, A2, c2, A3, c3, rfl, mk_M m1 m2 m3, hg⟩
theorem encS_calls (s : SegT) (B1 B2 B3 : Option Addr) (d1 d2 d3 n1 n2 n3 : Nat) (h1 : n1 = s.2.1.length) (h2 : n2 = s.2.2.1.length) (h3 : n3 = s.2.2.2.length) (W : World) (h : kSeg.K W s [.int .i64 s.1, .slice B1 n1 d1, .slice B2 n2 d2, .slice B3 n3 d3]) (hG : Sto.Good s) :
    Calls Tryz.prog 35 #[.agg #[.int .i64 s.1, .slice B1 n1 d1, .slice B2 n2 d2, .slice B3 n3 d3]] W fun e w' => ∃ v', e = .returned v' ∧ Kd.R (Kd.int .u8) 5 w' W.heap.size (fun _ => True) v' (code s) ∧ Grew W w' := by
  subst h1 h2 h3
  obtain ⟨b, ls, K, Ps⟩ := s
  obtain ⟨g1, g2, g3⟩ := hG
  obtain ⟨_, _, e0, hk0, ⟨_, _, e1, ⟨A1, c1, e11, l1, q1⟩, ⟨_, _, e2, ⟨A2, c2, e22, l2, q2⟩, ⟨A3, c3, e33, l3, q3⟩⟩⟩⟩ := h
  subst e11 e22 e33 e2 e1
  cases hk0
  simp only [List.cons_append, List.nil_append, List.cons.injEq, Value.slice.injEq, true_and, and_true] at e0
  obtain ⟨⟨rfl, rfl⟩, ⟨rfl, rfl⟩, rfl, rfl⟩ := e0
  have hok : EncOk (b, ls, K, Ps) := by
    have g1' : (b, ls, K, Ps) = seg b ls := g1
    rw [g1']
    exact encOk_seg g2 g3
  obtain ⟨k, hk⟩ := (encode_ev (b, ls, K, Ps) hok g3).rounds
  exact L.spec_l4encode.calls k b B1 d1 ls B2 d2 K B3 d3 Ps _ W q1 l1 q2 l2 q3 l3 hk
set_option maxRecDepth 100000 in
set_option maxHeartbeats 8000000 in
theorem decS_calls (A : Option Addr) (c : Nat) (b : List Int) (w : World) (hr : Kd.C (Kd.int .u8) w A b.length b) (hc : b.length ≤ c) (hb : ∀ x ∈ b, 0 ≤ x ∧ x ≤ 255) (hl : b.length ≤ 1048576) :
    Calls Tryz.prog 47 #[.slice A b.length c] w fun e w' => ∃ (B1 : Option Addr) (d1 : Nat) (B2 : Option Addr) (d2 : Nat) (B3 : Option Addr) (d3 : Nat), e = .returned (.tuple #[.agg #[.int .i64 (dec b).1.1, .slice B1 (dec b).1.2.1.length d1, .slice B2 (dec b).1.2.2.1.length d2, .slice B3 (dec b).1.2.2.2.length d3], .int .i64 (dec b).2]) ∧ kSeg.M w' w.heap.size (fun _ => True) (dec b).1 [.int .i64 (dec b).1.1, .slice B1 (dec b).1.2.1.length d1, .slice B2 (dec b).1.2.2.1.length d2, .slice B3 (dec b).1.2.2.2.length d3] ∧ Grew w w' := by
  have huI := Tryz.underlying59
  have HR := Aside0.mk hr
  have HC := Aside0.mk hc
  have HY := Aside0.mk hb
  obtain ⟨kl, hkl⟩ := (lines_ev b hb hl).rounds
  clear hr hc hb
  cases hP : specP b with
  | none =>
    rw [hP] at hkl
    have HL := Aside0.mk (fun (W : World) (hW : Below w.heap.size w W) => L.spec_l4lines.calls kl A c b _ _ _ W (Kd.C_below HR.out hW) HC.out hkl)
    have HP := Aside0.mk hP
    clear hP hkl
    go_enter Tryz.func47, Tryz.ntmps47
    go_wp2_with (((with_reducible refine gate_dst (N := 2) rfl ?_); refine box_event ?hg (N := 2) ?hd (cs := #[.int .i64 0, .slice none 0 0, .slice none 0 0, .slice none 0 0]) (t := 59) ?hr ?_; (case hd => rfl); (case hg => rfl); (case hr => first | (go_simp; done) | (go_simp; rfl)); intro gr hg_ w1 hbx hbb; have BKgr := Aside0.mk hbx; have GEgr := Aside0.mk (show w.heap.size ≤ gr from Nat.le_of_eq hg_.symm); have GLgr := Aside0.mk (blk_lt hbx); have HBw1 := Aside0.mk hbb; clear hg_ hbb; obtain ⟨⟨hgrc0, hgrf0⟩, ⟨hgrc1, hgrf1⟩, ⟨hgrc2, hgrf2⟩, ⟨hgrc3, hgrf3⟩⟩ := cells4 hbx; clear hbx))
    go_at_call 67
    refine (HL.out _ HBw1.out).mono ?_
    rintro e w2 ⟨v2, rfl, hS2, hb2⟩
    obtain ⟨A1, c1, rfl⟩ := Kd.S_slice hS2
    have BK2 := Aside0.mk (blk_below BKgr.out hb2)
    have HB2 := Aside0.mk (show Below w.heap.size w w2 from grew_trans HBw1.out hb2)
    obtain ⟨⟨s0, sf0⟩, ⟨s1, sf1⟩, ⟨s2, sf2⟩, ⟨s3, sf3⟩⟩ := cells4 BK2.out
    clear hS2 hb2
    go_wp2
    refine bodyPost_ret (results_ct rfl _ _ gr 59 #[.int .i64 0, .slice none 0 0, .slice none 0 0, .slice none 0 0] (0, 0) _ rfl (by (with_reducible repeat (first | refine blk_drewN ?_ _ | refine blk_drew ?_ | refine blk_alloc ?_ _)); refine blk_put (cs := #[.int .i64 0, .slice none 0 0, .slice none 0 0, .slice none 0 0]) ?_ 3 _ rfl; (with_reducible repeat (first | refine blk_drewN ?_ _ | refine blk_drew ?_ | refine blk_alloc ?_ _)); refine blk_put (cs := #[.int .i64 0, .slice none 0 0, .slice none 0 0, .slice none 0 0]) ?_ 2 _ rfl; (with_reducible repeat (first | refine blk_drewN ?_ _ | refine blk_drew ?_ | refine blk_alloc ?_ _)); refine blk_put (cs := #[.int .i64 0, .slice none 0 0, .slice none 0 0, .slice none 0 0]) ?_ 1 _ rfl; (with_reducible repeat (first | refine blk_drewN ?_ _ | refine blk_drew ?_ | refine blk_alloc ?_ _)); refine blk_put (cs := #[.int .i64 0, .slice none 0 0, .slice none 0 0, .slice none 0 0]) ?_ 0 _ rfl; (with_reducible repeat (first | refine blk_drewN ?_ _ | refine blk_drew ?_ | refine blk_alloc ?_ _)); exact BK2.out) Tryz.underlying59 rfl (by kernel_rfl)) rfl ?_
    rw [show dec b = ((0, [], [], []), 5) from by rw [dec_spec]; unfold decBy; rw [HP.out]]
    exact ⟨none, 0, none, 0, none, 0, rfl, zero_M _ _, below_set (below_set (below_set (below_set (HB2.out) GEgr.out) GEgr.out) GEgr.out) GEgr.out⟩
  | some q =>
    obtain ⟨base, ls⟩ := q
    rw [hP] at hkl
    have HL := Aside0.mk (fun (W : World) (hW : Below w.heap.size w W) => L.spec_l4lines.calls kl A c b _ _ _ W (Kd.C_below HR.out hW) HC.out hkl)
    have hh : rdHead 4 (b.drop 2) = some (base, ls) := by
      unfold specP at hP
      by_cases h2 : b.length < 2
      · rw [if_pos h2] at hP; cases hP
      · rwa [if_neg h2] at hP
    obtain ⟨b0, b1, l1, l2, l3⟩ := rdHead_some 4 (b.drop 2) base ls (bytes_drop HY.out 2) hh
    rw [List.length_drop] at l2
    have hs : smallBB ls := by show ls.length + totalB ls ≤ 1048576; omega
    obtain ⟨kf, hkf⟩ := (fits_ev base ls hs).rounds
    have HP := Aside0.mk hP
    have HSM := Aside0.mk hs
    have HLY := Aside0.mk l3
    clear hP hkl hh b0 b1 l2 l3 hs
    go_enter Tryz.func47, Tryz.ntmps47
    go_wp2_with (((with_reducible refine gate_dst (N := 2) rfl ?_); refine box_event ?hg (N := 2) ?hd (cs := #[.int .i64 0, .slice none 0 0, .slice none 0 0, .slice none 0 0]) (t := 59) ?hr ?_; (case hd => rfl); (case hg => rfl); (case hr => first | (go_simp; done) | (go_simp; rfl)); intro gr hg_ w1 hbx hbb; have BKgr := Aside0.mk hbx; have GEgr := Aside0.mk (show w.heap.size ≤ gr from Nat.le_of_eq hg_.symm); have GLgr := Aside0.mk (blk_lt hbx); have HBw1 := Aside0.mk hbb; clear hg_ hbb; obtain ⟨⟨hgrc0, hgrf0⟩, ⟨hgrc1, hgrf1⟩, ⟨hgrc2, hgrf2⟩, ⟨hgrc3, hgrf3⟩⟩ := cells4 hbx; clear hbx))
    go_at_call 67
    refine (HL.out _ HBw1.out).mono ?_
    rintro e w2 ⟨v2, rfl, hS2, hb2⟩
    obtain ⟨A1, c1, rfl⟩ := Kd.S_slice hS2
    have BK2 := Aside0.mk (blk_below BKgr.out hb2)
    have HB2 := Aside0.mk (show Below w.heap.size w w2 from grew_trans HBw1.out hb2)
    have HGR := Aside0.mk (show gr < w2.heap.size from blk_lt BK2.out)
    obtain ⟨_, hc2, hC2⟩ := Kd.S_reads' hS2
    have HF := Aside0.mk (fun (W : World) (hW : Below w2.heap.size w2 W) => L.spec_l4fits.calls kf base A1 c1 ls _ W (Kd.C_below hC2 hW) hc2 hkf)
    have HC2 := Aside0.mk hC2
    have HCC := Aside0.mk hc2
    clear hS2 hb2 hC2 hc2 hkf hgrc0 hgrf0 hgrc1 hgrf1 hgrc2 hgrf2 hgrc3 hgrf3
    cases hft : fits base ls with
    | false =>
      rw [hft] at HF
      have HFT := Aside0.mk hft
      clear hft
      go_wp2_with (go_at_call 68; refine (HF.out _ (by repeat (first | exact Below.refl _ _ | apply below_alloc | apply below_drew1 | apply pw_below_drewN))).mono ?_; rintro e w3 ⟨rfl, hd3⟩; have HB3 := Aside0.mk (grew_trans HB2.out (grew_trans (by repeat (first | exact Below.refl _ _ | apply below_alloc | apply below_drew1 | apply pw_below_drewN)) (below_of_drawn hd3))); have BK3 := Aside0.mk (blk_below BK2.out (grew_trans (by repeat (first | exact Below.refl _ _ | apply below_alloc | apply below_drew1 | apply pw_below_drewN)) (below_of_drawn hd3))); obtain ⟨⟨s0, sf0⟩, ⟨s1, sf1⟩, ⟨s2, sf2⟩, ⟨s3, sf3⟩⟩ := cells4 BK3.out; clear hd3)
      refine bodyPost_ret (results_ct rfl _ _ gr 59 #[.int .i64 0, .slice none 0 0, .slice none 0 0, .slice none 0 0] (0, 0) _ rfl (by (with_reducible repeat (first | refine blk_drewN ?_ _ | refine blk_drew ?_ | refine blk_alloc ?_ _)); refine blk_put (cs := #[.int .i64 0, .slice none 0 0, .slice none 0 0, .slice none 0 0]) ?_ 3 _ rfl; (with_reducible repeat (first | refine blk_drewN ?_ _ | refine blk_drew ?_ | refine blk_alloc ?_ _)); refine blk_put (cs := #[.int .i64 0, .slice none 0 0, .slice none 0 0, .slice none 0 0]) ?_ 2 _ rfl; (with_reducible repeat (first | refine blk_drewN ?_ _ | refine blk_drew ?_ | refine blk_alloc ?_ _)); refine blk_put (cs := #[.int .i64 0, .slice none 0 0, .slice none 0 0, .slice none 0 0]) ?_ 1 _ rfl; (with_reducible repeat (first | refine blk_drewN ?_ _ | refine blk_drew ?_ | refine blk_alloc ?_ _)); refine blk_put (cs := #[.int .i64 0, .slice none 0 0, .slice none 0 0, .slice none 0 0]) ?_ 0 _ rfl; (with_reducible repeat (first | refine blk_drewN ?_ _ | refine blk_drew ?_ | refine blk_alloc ?_ _)); exact BK3.out) Tryz.underlying59 rfl (by kernel_rfl)) rfl ?_
      rw [show dec b = ((0, [], [], []), 5) from by rw [dec_spec]; unfold decBy; rw [HP.out]; simp only; rw [HFT.out]; rfl]
      exact ⟨none, 0, none, 0, none, 0, rfl, zero_M _ _, below_set (below_set (below_set (below_set (HB3.out) GEgr.out) GEgr.out) GEgr.out) GEgr.out⟩
    | true =>
      rw [hft] at HF
      have HFT := Aside0.mk hft
      have HBL := Aside0.mk (fun (W : World) (hW : Below w2.heap.size w2 W) => bld_good base A1 ls.length c1 ls rfl W (Kd.C_below HC2.out hW) HCC.out HLY.out HSM.out hft)
      clear hft
      go_wp2_with (first | (go_at_call 68; refine (HF.out _ (by repeat (first | exact Below.refl _ _ | apply below_alloc | apply below_drew1 | apply pw_below_drewN))).mono ?_; rintro e w3 ⟨rfl, hd3⟩; have HB3 := Aside0.mk (show Below w2.heap.size w2 w3 from grew_trans (by repeat (first | exact Below.refl _ _ | apply below_alloc | apply below_drew1 | apply pw_below_drewN)) (below_of_drawn hd3)); clear hd3) | (go_at_call 34; refine (HBL.out _ HB3.out).mono ?_; rintro e w4 ⟨B1, d1, B2, d2, B3, d3, rfl, hM4, hb4⟩; have HB4 := Aside0.mk (show Below w2.heap.size w2 w4 from grew_trans HB3.out hb4); have HM4 := Aside0.mk (show kSeg.M w4 w2.heap.size (fun _ => True) (seg base ls) [.int .i64 base, .slice B1 ls.length d1, .slice B2 (keys ls).length d2, .slice B3 (keys ls).length d3] from kSeg.M_lower HB3.out.size hM4); obtain ⟨⟨x0, xf0⟩, ⟨x1, xf1⟩, ⟨x2, xf2⟩, ⟨x3, xf3⟩⟩ := cells4 (blk_new w4 (.cells #[.int .i64 base, .slice B1 ls.length d1, .slice B2 (keys ls).length d2, .slice B3 (keys ls).length d3] 59 (0, 0))); clear hM4 hb4))
      obtain ⟨gq, hgq⟩ : ∃ g_, g_ = w4.heap.size := ⟨_, rfl⟩
      obtain ⟨w5, hw5⟩ : ∃ w_, w_ = w4.alloc (.cells #[.int .i64 base, .slice B1 ls.length d1, .slice B2 (keys ls).length d2, .slice B3 (keys ls).length d3] 59 (0, 0)) := ⟨_, rfl⟩
      rw [← hw5, ← hgq] at x0 xf0 x1 xf1 x2 xf2 x3 xf3
      rw [← hw5, ← hgq]
      have BKgq := Aside0.mk (show w5.heap[gq]? = some (.cells #[.int .i64 base, .slice B1 ls.length d1, .slice B2 (keys ls).length d2, .slice B3 (keys ls).length d3] 59 (0, 0)) from by rw [hw5, hgq]; exact blk_new w4 _)
      have hb5 : Below w4.heap.size w4 w5 := by rw [hw5]; exact below_alloc (Below.refl _ _) _
      have HB5 := Aside0.mk (show Below w2.heap.size w2 w5 from grew_trans HB4.out hb5)
      have HM5 := Aside0.mk (Kd.M_below HM4.out hb5)
      clear hgq hw5 hb5
      have HEN := encS_calls (seg base ls) B1 B2 B3 d1 d2 d3 ls.length (keys ls).length (keys ls).length rfl rfl (List.length_map ..).symm w5 (kSeg.K_of_M HM5.out) ⟨rfl, HFT.out, HLY.out⟩
      go_at_call 35
      refine HEN.mono ?_
      rintro e w6 ⟨v6, rfl, hM6, hb6⟩
      obtain ⟨A6, c6, rfl⟩ := Kd.R_slice hM6
      have hsame := same_bytes (code (seg base ls)) b (code_bytes (s := seg base ls) HLY.out) HY.out
      obtain ⟨_, hc6, hC6⟩ := Kd.R_reads' hM6
      have HSB := Aside0.mk (fun (W : World) (hW : Below w6.heap.size w6 W) => L.spec_l4sameBytes.calls A6 c6 (code (seg base ls)) A c b (decide (code (seg base ls) = b)) W (Kd.C_below hC6 hW) hc6 (Kd.C_below HR.out (grew_trans HB2.out (grew_trans HB5.out (grew_trans hb6 hW)))) HC.out (by show some _ = some _; rw [hsame]))
      have HB6 := Aside0.mk (show Below w2.heap.size w2 w6 from grew_trans HB5.out hb6)
      have BK6 := Aside0.mk (blk_below BKgq.out hb6)
      have HM6 := Aside0.mk (Kd.M_below HM5.out hb6)
      have hcl : (code (seg base ls)).length ≤ 9223372036854775807 := hC6.2.1
      clear hM6 hb6 hC6 hc6 hsame HEN x0 xf0 x1 xf1 x2 xf2 x3 xf3
      by_cases hcd : code (seg base ls) = b
      case neg =>
        rw [decide_eq_false hcd] at HSB
        have HCD := Aside0.mk hcd
        clear hcd
        go_wp2_with (go_at_call 69; refine (HSB.out _ (by repeat (first | exact Below.refl _ _ | apply below_alloc | apply below_drew1 | apply pw_below_drewN))).mono ?_; rintro e w7 ⟨rfl, hd7⟩; have HB7 := Aside0.mk (show Below w2.heap.size w2 w7 from grew_trans HB6.out (grew_trans (by repeat (first | exact Below.refl _ _ | apply below_alloc | apply below_drew1 | apply pw_below_drewN)) (below_of_drawn hd7))); have BK7 := Aside0.mk (blk_below BK2.out HB7.out); obtain ⟨⟨s0, sf0⟩, ⟨s1, sf1⟩, ⟨s2, sf2⟩, ⟨s3, sf3⟩⟩ := cells4 BK7.out; clear hd7)
        refine bodyPost_ret (results_ct rfl _ _ gr 59 #[.int .i64 0, .slice none 0 0, .slice none 0 0, .slice none 0 0] (0, 0) _ rfl (by (with_reducible repeat (first | refine blk_drewN ?_ _ | refine blk_drew ?_ | refine blk_alloc ?_ _)); refine blk_put (cs := #[.int .i64 0, .slice none 0 0, .slice none 0 0, .slice none 0 0]) ?_ 3 _ rfl; (with_reducible repeat (first | refine blk_drewN ?_ _ | refine blk_drew ?_ | refine blk_alloc ?_ _)); refine blk_put (cs := #[.int .i64 0, .slice none 0 0, .slice none 0 0, .slice none 0 0]) ?_ 2 _ rfl; (with_reducible repeat (first | refine blk_drewN ?_ _ | refine blk_drew ?_ | refine blk_alloc ?_ _)); refine blk_put (cs := #[.int .i64 0, .slice none 0 0, .slice none 0 0, .slice none 0 0]) ?_ 1 _ rfl; (with_reducible repeat (first | refine blk_drewN ?_ _ | refine blk_drew ?_ | refine blk_alloc ?_ _)); refine blk_put (cs := #[.int .i64 0, .slice none 0 0, .slice none 0 0, .slice none 0 0]) ?_ 0 _ rfl; (with_reducible repeat (first | refine blk_drewN ?_ _ | refine blk_drew ?_ | refine blk_alloc ?_ _)); exact BK7.out) Tryz.underlying59 rfl (by kernel_rfl)) rfl ?_
        rw [show dec b = ((0, [], [], []), 5) from by rw [dec_spec]; unfold decBy; rw [HP.out]; simp only; rw [if_neg (fun h => HCD.out h.2)]]
        exact ⟨none, 0, none, 0, none, 0, rfl, zero_M _ _, below_set (below_set (below_set (below_set ((grew_trans HB2.out HB7.out)) GEgr.out) GEgr.out) GEgr.out) GEgr.out⟩
      case pos =>
        rw [decide_eq_true hcd] at HSB
        have HD := Aside0.mk (show dec b = (seg base ls, 0) from by rw [dec_spec]; unfold decBy; rw [HP.out]; simp only; rw [if_pos ⟨HFT.out, hcd⟩])
        clear hcd
        go_wp2_with (go_at_call 69; refine (HSB.out _ (by repeat (first | exact Below.refl _ _ | apply below_alloc | apply below_drew1 | apply pw_below_drewN))).mono ?_; rintro e w7 ⟨rfl, hd7⟩; have hb7_ := grew_trans (by repeat (first | exact Below.refl _ _ | apply below_alloc | apply below_drew1 | apply pw_below_drewN)) (below_of_drawn hd7); have HB7 := Aside0.mk (show Below w2.heap.size w2 w7 from grew_trans HB6.out hb7_); have HM7 := Aside0.mk (show kSeg.M w7 w2.heap.size (fun _ => True) (seg base ls) [.int .i64 base, .slice B1 ls.length d1, .slice B2 (keys ls).length d2, .slice B3 (keys ls).length d3] from Kd.M_below HM6.out hb7_); have BKq7 := Aside0.mk (blk_below BK6.out hb7_); have BK7 := Aside0.mk (blk_below BK2.out HB7.out); obtain ⟨⟨s0, sf0⟩, ⟨s1, sf1⟩, ⟨s2, sf2⟩, ⟨s3, sf3⟩⟩ := cells4 BK7.out; obtain ⟨⟨y0, yf0⟩, ⟨y1, yf1⟩, ⟨y2, yf2⟩, ⟨y3, yf3⟩⟩ := cells4 BKq7.out; clear hd7 hb7_)
        refine bodyPost_ret (results_ct rfl _ _ gr 59 #[.int .i64 base, .slice B1 ls.length d1, .slice B2 (keys ls).length d2, .slice B3 (keys ls).length d3] (0, 0) _ rfl (by (with_reducible repeat (first | refine blk_drewN ?_ _ | refine blk_drew ?_ | refine blk_alloc ?_ _)); refine blk_put (cs := #[.int .i64 base, .slice B1 ls.length d1, .slice B2 (keys ls).length d2, .slice none 0 0]) ?_ 3 _ rfl; (with_reducible repeat (first | refine blk_drewN ?_ _ | refine blk_drew ?_ | refine blk_alloc ?_ _)); refine blk_put (cs := #[.int .i64 base, .slice B1 ls.length d1, .slice none 0 0, .slice none 0 0]) ?_ 2 _ rfl; (with_reducible repeat (first | refine blk_drewN ?_ _ | refine blk_drew ?_ | refine blk_alloc ?_ _)); refine blk_put (cs := #[.int .i64 base, .slice none 0 0, .slice none 0 0, .slice none 0 0]) ?_ 1 _ rfl; (with_reducible repeat (first | refine blk_drewN ?_ _ | refine blk_drew ?_ | refine blk_alloc ?_ _)); refine blk_put (cs := #[.int .i64 0, .slice none 0 0, .slice none 0 0, .slice none 0 0]) ?_ 0 _ rfl; (with_reducible repeat (first | refine blk_drewN ?_ _ | refine blk_drew ?_ | refine blk_alloc ?_ _)); exact BK7.out) Tryz.underlying59 rfl (by kernel_rfl)) rfl ?_
        rw [HD.out]
        have e3 : (seg base ls).2.2.2.length = (keys ls).length := List.length_map ..
        refine ⟨B1, d1, B2, d2, B3, d3, by rw [e3]; rfl, ?_, below_set (below_set (below_set (below_set ((grew_trans HB2.out HB7.out)) GEgr.out) GEgr.out) GEgr.out) GEgr.out⟩
        rw [e3]
        exact kSeg.M_mono (fun _ _ => trivial) (Kd.M_far (d := kSeg) (Kd.M_far (d := kSeg) (Kd.M_far (d := kSeg) (Kd.M_far (d := kSeg) (kSeg.M_lower HB2.out.size (kSeg.M_mono (ok' := fun k => w2.heap.size ≤ k) (fun k hk => hk.2.1) (kSeg.M_bound HM7.out))) (p := ⟨_, 0, none⟩) (fun k hk => by show k ≠ gr; have h1 : w2.heap.size ≤ k := hk; have h2 := HGR.out; omega) _) (p := ⟨_, 1, none⟩) (fun k hk => by show k ≠ gr; have h1 : w2.heap.size ≤ k := hk; have h2 := HGR.out; omega) _) (p := ⟨_, 2, none⟩) (fun k hk => by show k ≠ gr; have h1 : w2.heap.size ≤ k := hk; have h2 := HGR.out; omega) _) (p := ⟨_, 3, none⟩) (fun k hk => by show k ≠ gr; have h1 : w2.heap.size ≤ k := hk; have h2 := HGR.out; omega) _)
end Go.Proofs.YtmgmdnmfalepkaaGreat.SegS

namespace Go.Proofs.YtmgmdnmfalepkaaGreat.Far
open Go.RowKit Go.Proofs.YtmgmdnmfalepkaaGreatW.PrintWords Go.Proofs.YtmgmdnmfalepkaaGreatW.PrintMore Go.Proofs.YtmgmdnmfalepkaaGreat.Kit Go.Proofs.YtmgmdnmfalepkaaGreat.PKit Go.Proofs.YtmgmdnmfalepkaaGreat.Ty Go.Proofs.YtmgmdnmfalepkaaGreat.Build Go.Proofs.YtmgmdnmfalepkaaGreat.HelpBB
set_option linter.unusedVariables false
def far {α : Type} (d : Kd α) (w0 : World) : Kd α where
  sz := d.sz
  E := []
  K := fun _ x cs => d.K w0 x cs
  M := fun _ _ _ x cs => d.K w0 x cs
  K_len := fun h => d.K_len h
  K_one := fun h => d.K_one h
  K_below := fun _ h => h
  K_of_M := fun h => h
  M_mono := fun _ h => h
  M_bound := fun h => h
  M_move := fun _ h => h
  M_lower := fun _ h => h
theorem far_C {α : Type} {d : Kd α} {w0 W : World} {A : Option Addr} {n : Nat} {xs : List α} (h : (far d w0).C W A n xs) (hb : Below w0.heap.size w0 W) : d.C W A n xs :=
  ReadsRow.imp_ (size := d.sz) (R := d.K w0) h (Below.refl _ _) (fun p c h => d.K_below hb h)
theorem far_reads {α : Type} {d : Kd α} {w0 W : World} {A : Option Addr} {n : Nat} {xs : List α} (h : d.C w0 A n xs) (hb : Below w0.heap.size w0 W) : ReadsRow (d.K w0) d.sz W A n xs :=
  ReadsRow.imp_ h hb (fun _ _ h => h)
end Go.Proofs.YtmgmdnmfalepkaaGreat.Far

namespace Go.Proofs.YtmgmdnmfalepkaaGreat.SegS
open Go.RowKit Go.Proofs.YtmgmdnmfalepkaaGreatW.PrintWords Go.Proofs.YtmgmdnmfalepkaaGreatW.PrintMore Go.Proofs.YtmgmdnmfalepkaaGreat.Kit Go.Proofs.YtmgmdnmfalepkaaGreat.PKit Go.Proofs.YtmgmdnmfalepkaaGreat.Ty Go.Proofs.YtmgmdnmfalepkaaGreat.PSeg Go.Proofs.YtmgmdnmfalepkaaGreat.PEnc Go.Proofs.YtmgmdnmfalepkaaGreat.PDec Go.Proofs.YtmgmdnmfalepkaaGreat.PSta Go.Proofs.YtmgmdnmfalepkaaGreat.HelpBB Go.Proofs.YtmgmdnmfalepkaaGreat.HelpSeg
open Go.Proofs.YtmgmdnmfalepkaaGreat.Build hiding code ans
open Go.Proofs.YtmgmdnmfalepkaaGreat.Sto Go.Proofs.YtmgmdnmfalepkaaGreat.Far
set_option linter.unusedVariables false
set_option linter.unusedSimpArgs false
theorem flat_snoc (ss : List SegT) (i : Nat) (hi : i < ss.length) : flatS (ss.take (i + 1)) = flatS (ss.take i) ++ (ss.getD i zS).2.1 := by
  rw [seg_snoc ss i hi]
  simp [flatS]
set_option maxRecDepth 100000 in
set_option maxHeartbeats 4000000 in
theorem flat_calls (Av : Option Addr) (cv n : Nat) (ss : List SegT) (hn : n = ss.length) (w : World) (hs : Kd.C kSeg w Av ss.length ss) (hl : nlin ss ≤ 1048576) :
    Calls Tryz.prog 23 #[.slice Av n cv] w fun e w' => ∃ (A9 : Option Addr) (c9 : Nat), e = .returned (.slice A9 (nlin ss) c9) ∧ (far kB w).R 25 w' w.heap.size (fun _ => True) (.slice A9 (nlin ss) c9) (flatS ss) ∧ Grew w w' := by
  subst hn
  have hL := hs.2.1
  have HS := Aside0.mk hs
  clear hs
  go_enter Tryz.func23, Tryz.ntmps23
  go_wp2
  go_loopg [3, 4] ss.length (fun gg s3 s4 wr => ∃ (i : Nat) (A9 : Option Addr) (c9 : Nat), i ≤ ss.length ∧ ss.length - i ≤ gg ∧ s4 = .int .i64 (i : Int) ∧ s3 = .slice A9 (nlin (ss.take i)) c9 ∧ Aside0 ((far kB w).R 25 wr w.heap.size (fun _ => True) (.slice A9 (nlin (ss.take i)) c9) (flatS (ss.take i))) ∧ Aside0 (Below w.heap.size w wr))
  case atStart => exact ⟨0, none, 0, by omega, by omega, rfl, rfl, ⟨Kd.R_nil _ _ _ _ _⟩, ⟨Below.refl _ _⟩⟩
  case round =>
    obtain ⟨i, A9, c9, hi, hg, rfl, rfl, HR, HB⟩ := hrel
    by_cases hlt : i < ss.length
    · have hltz : (i : Int) < (ss.length : Int) := by omega
      obtain ⟨ad, A1, c1, A2, c2, A3, c3, rfl, hcc, hT⟩ := at_seg HS.out i hlt
      obtain ⟨hc0, hc1, hc2, hc3⟩ := cells_later HB.out hcc
      obtain ⟨⟨B1, d1, e1, l1, k1⟩, _, _⟩ := Decode.seg_parts (b := (ss.getD i zS).1) (ls := (ss.getD i zS).2.1) (K := (ss.getD i zS).2.2.1) (Ps := (ss.getD i zS).2.2.2) hT
      obtain ⟨rfl, rfl⟩ : A1 = B1 ∧ c1 = d1 := by injection e1 with x1 x2 x3; exact ⟨x1, x3⟩
      have HK1 := Aside0.mk k1
      have hsn := nlin_append (ss.take i) [ss.getD i zS]
      rw [← seg_snoc ss i hlt, nlin_one] at hsn
      have hlt2 := nlin_take ss (i + 1)
      have HSN := Aside0.mk hsn
      have HFS := Aside0.mk (flat_snoc ss i hlt)
      have HFL := Aside0.mk (flat_len (ss.take i))
      have hb1 : nlin (ss.take i) ≤ 1048576 := by omega
      have hb2 : nlin (ss.take i) + (ss.getD i zS).2.1.length ≤ 1048576 := by omega
      clear hcc hT hsn hlt2 e1 l1 k1
      generalize ss.getD i zS = s at hc0 hc1 hc2 hc3 HSN hb2 HK1 HFS
      go_wp2_with (at_builtin; refine Kd.R_append_rows (far kB w) (Rr := kB.K w) (w0 := w) w.heap.size rfl (.tmp 11) (.tmp 16) 22 25 (.slice none 0 0) 24 rfl Tryz.underlying22 infoBB rfl Nat.zero_lt_one (by omega) (.slice A9 (nlin (ss.take i)) c9) (flatS (ss.take i)) s.2.1 A1 s.2.1.length c1 (fun _ => True) (fun _ => False) rfl rfl HR.out (far_reads HK1.out HB.out) (fun _ _ h => h) (fun _ h => h.elim) (fun _ _ => trivial) HB.out HB.out.size (by rw [HFL.out]; omega) ?_; intro v1 w1 hR1 hB1 hg1 hat1; obtain ⟨E9, f9, e9⟩ := Kd.R_slice hR1; rw [List.length_append, HFL.out, ← HSN.out] at e9; subst e9; have HR1 := Aside0.mk hR1; have HB1 := Aside0.mk hB1; clear hR1 hB1 hg1 hat1)
      go_roundg (ss.length - (i + 1))
      case measure => omega
      case rel => exact ⟨i + 1, E9, f9, by omega, by omega, by go_num, rfl, ⟨by rw [HFS.out]; exact HR1.out⟩, HB1⟩
    · have hltz : ¬ (i : Int) < (ss.length : Int) := by omega
      obtain rfl : i = ss.length := by omega
      rw [List.take_length] at HR ⊢
      go_wp2
      go_ret
      exact ⟨A9, c9, rfl, HR.out, HB.out⟩
theorem copy_spec (A : Option Addr) (n c : Nat) (ls : List (List Int)) (hn : n = ls.length) (w : World) (hr : Kd.C kB w A ls.length ls) (hc : ls.length ≤ c) (hs : smallBB ls) :
    Calls Tryz.prog 33 #[.slice A n c] w fun e w' => ∃ (E : Option Addr) (f : Nat), e = .returned (.slice E n f) ∧ Kd.S kB 25 w' w.heap.size (fun _ => True) (.slice E n f) ls ∧ Below w.heap.size w w' := by
  subst hn
  obtain ⟨k, hk⟩ := (copy_ev ls hs).rounds
  refine (L.spec_l4copy.calls k A c ls _ w hr hc hk).mono ?_
  rintro e w' ⟨v, rfl, hS, hb⟩
  obtain ⟨E, f, rfl⟩ := Kd.S_slice hS
  exact ⟨E, f, rfl, hS, hb⟩
set_option maxRecDepth 100000 in
set_option maxHeartbeats 4000000 in
theorem copy2_calls (x : StaT) (A0 A1 : Option Addr) (c0 c1 : Nat) (w : World) (h0 : Kd.C kB w A0 x.1.length x.1) (l0 : x.1.length ≤ c0) (h1 : Kd.C kB w A1 x.2.length x.2) (l1 : x.2.length ≤ c1) (s0 : smallBB x.1) (s1 : smallBB x.2) :
    Calls Tryz.prog 25 #[.agg #[.slice A0 x.1.length c0, .slice A1 x.2.length c1]] w fun e w' => ∃ (E0 : Option Addr) (e0 : Nat) (E1 : Option Addr) (e1 N : Nat), e = .returned (.agg #[.slice E0 x.1.length e0, .slice E1 x.2.length e1]) ∧ Kd.S kB 25 w' w.heap.size (fun k => k < N) (.slice E0 x.1.length e0) x.1 ∧ Kd.S kB 25 w' w.heap.size (fun k => N ≤ k) (.slice E1 x.2.length e1) x.2 ∧ w.heap.size ≤ N ∧ N ≤ w'.heap.size ∧ Grew w w' := by
  have huT := Tryz.underlying27
  have HC0 := Aside0.mk (fun (W : World) (hW : Below w.heap.size w W) => copy_spec A0 x.1.length c0 x.1 rfl W (Kd.C_below h0 hW) l0 s0)
  have HC1 := Aside0.mk (fun (W : World) (hW : Below w.heap.size w W) => copy_spec A1 x.2.length c1 x.2 rfl W (Kd.C_below h1 hW) l1 s1)
  have m1 := h0.2.1
  have m2 := h1.2.1
  clear h0 h1 s0 s1
  go_enter Tryz.func25, Tryz.ntmps25
  go_wp2_with (first | ((with_reducible refine gate_dst (N := 1) rfl ?_); refine box_event ?hg (N := 1) ?hd (cs := #[.slice A0 x.1.length c0, .slice A1 x.2.length c1]) (t := 27) ?hr ?_; (case hd => rfl); (case hg => rfl); (case hr => first | (go_simp; done) | (go_simp; rfl)); intro gx hg_ w1 hbx hbb; have BKgx := Aside0.mk hbx; have GEgx := Aside0.mk (show w.heap.size ≤ gx from Nat.le_of_eq hg_.symm); have GLgx := Aside0.mk (blk_lt hbx); have HBw1 := Aside0.mk hbb; clear hg_ hbb; obtain ⟨⟨hgxc0, hgxf0⟩, ⟨hgxc1, hgxf1⟩⟩ := cells2 hbx; clear hbx) | ((with_reducible refine gate_dst (N := 2) rfl ?_); refine box_event ?hg (N := 2) ?hd (cs := #[.slice none 0 0, .slice none 0 0]) (t := 27) ?hr ?_; (case hd => rfl); (case hg => rfl); (case hr => first | (go_simp; done) | (go_simp; rfl)); intro gr hg_ w2 hbx hbb; have BKgr := Aside0.mk hbx; have GEgr := Aside0.mk (show w1.heap.size ≤ gr from Nat.le_of_eq hg_.symm); have GLgr := Aside0.mk (blk_lt hbx); have HBw2 := Aside0.mk hbb; clear hg_ hbb; obtain ⟨⟨hgrc0, hgrf0⟩, ⟨hgrc1, hgrf1⟩⟩ := cells2 hbx; clear hbx; have BKp_ := Aside0.mk (blk_below BKgx.out HBw2.out); clear BKgx hgxc0 hgxf0 hgxc1 hgxf1; have BKgx := BKp_; clear BKp_; obtain ⟨⟨pc0, pf0⟩, ⟨pc1, pf1⟩⟩ := cells2 BKgx.out))
  have HB2 := Aside0.mk (show Below w.heap.size w w2 from grew_trans HBw1.out HBw2.out)
  have GER := Aside0.mk (show w.heap.size ≤ gr from Nat.le_trans HBw1.out.size GEgr.out)
  have HKP := Aside0.mk (show ∀ W : World, W.heap[gx]? = some (.cells #[.slice A0 x.1.length c0, .slice A1 x.2.length c1] 27 (0, 0)) → (W.cell? ⟨gx, 0, none⟩ = some (.slice A0 x.1.length c0) ∧ W.cell? ⟨gx, 1, none⟩ = some (.slice A1 x.2.length c1)) from fun W hW => ⟨(blk_cell hW 0).trans rfl, (blk_cell hW 1).trans rfl⟩)
  have NEX := Aside0.mk (show gx ≠ gr from fun e => by have h1 := GLgx.out; have h2 := GEgr.out; omega)
  have GLR := Aside0.mk (blk_lt BKgr.out)
  go_region_held3 (fun W_ => W_.cell? ⟨gx, 0, none⟩ = some (.slice A0 x.1.length c0) ∧ W_.cell? ⟨gx, 1, none⟩ = some (.slice A1 x.2.length c1)) ((refine HKP.out _ ?_; repeat (with_reducible first | exact BX4.out | exact BX3.out | exact BKgx.out | refine blk_alloc ?_ _ | refine blk_drew ?_ | refine blk_drewN ?_ _ | refine blk_far ?_ NEX.out _))) (first | (go_at_call 33; (with_reducible refine (HC0.out _ ?h).mono ?_); (case h => exact grew_trans HB2.out (by repeat (first | exact Below.refl _ _ | apply below_alloc | apply below_drew1 | apply pw_below_drewN))); rintro e w3 ⟨E0, e0, rfl, hS3, hb_⟩; have HB3 := Aside0.mk (show Below w2.heap.size w2 w3 from grew_trans (by repeat (first | exact Below.refl _ _ | apply below_alloc | apply below_drew1 | apply pw_below_drewN)) hb_); have HS3 := Aside0.mk (show Kd.S kB 25 w3 w2.heap.size (fun _ => True) (.slice E0 x.1.length e0) x.1 from Kd.S_lower hS3 (below_size (by repeat (first | exact Below.refl _ _ | apply below_alloc | apply below_drew1 | apply pw_below_drewN)))); have BX3 := Aside0.mk (blk_below BKgx.out HB3.out); clear hb_ hS3) | (go_at_call 33; (with_reducible refine (HC1.out _ ?h).mono ?_); (case h => exact grew_trans HB2.out (grew_trans HB3.out (by repeat (first | exact Below.refl _ _ | apply below_alloc | apply below_drew1 | apply pw_below_drewN)))); rintro e w4 ⟨E1, e1, rfl, hS4, hb_⟩; have HB34 := Aside0.mk (show Below w3.heap.size w3 w4 from grew_trans (by repeat (first | exact Below.refl _ _ | apply below_alloc | apply below_drew1 | apply pw_below_drewN)) hb_); have HB4 := Aside0.mk (show Below w2.heap.size w2 w4 from grew_trans HB3.out HB34.out); have HS4 := Aside0.mk (show Kd.S kB 25 w4 w3.heap.size (fun _ => True) (.slice E1 x.2.length e1) x.2 from Kd.S_lower hS4 (below_size (by repeat (first | exact Below.refl _ _ | apply below_alloc | apply below_drew1 | apply pw_below_drewN)))); have BK4 := Aside0.mk (blk_below BKgr.out HB4.out); have BX4 := Aside0.mk (blk_below BKgx.out HB4.out); obtain ⟨⟨t0, tf0⟩, ⟨t1, tf1⟩⟩ := cells2 BK4.out; clear hb_ hS4))
  go_wp2
  refine bodyPost_ret (results_cell_row rfl _ _ gr 27 #[.slice E0 x.1.length e0, .slice E1 x.2.length e1] (0, 0) _ rfl (by (with_reducible repeat (first | refine blk_drewN ?_ _ | refine blk_drew ?_ | refine blk_alloc ?_ _)); refine blk_put (cs := #[.slice E0 x.1.length e0, .slice none 0 0]) ?_ 1 _ rfl; (with_reducible repeat (first | refine blk_drewN ?_ _ | refine blk_drew ?_ | refine blk_alloc ?_ _)); refine blk_put (cs := #[.slice none 0 0, .slice none 0 0]) ?_ 0 _ rfl; (with_reducible repeat (first | refine blk_drewN ?_ _ | refine blk_drew ?_ | refine blk_alloc ?_ _)); exact BK4.out) Tryz.underlying27 rfl (by kernel_rfl)) rfl ?_
  refine ⟨E0, e0, E1, e1, w3.heap.size, rfl, ?_, ?_, ?_, ?_, below_set (below_set ((grew_trans HB2.out HB4.out)) GER.out) GER.out⟩
  · exact HelpBB.tBB.M_mono (fun k hk => hk.2.2) (HelpBB.tBB.M_lower HB2.out.size ((Ty.M_set (T := HelpBB.tBB) (Ty.M_set (T := HelpBB.tBB) (Ty.M_below (T := HelpBB.tBB) (HelpBB.tBB.M_bound HS3.out) HB34.out) (fun k hk e => by have h1 := hk.2.1; have h2 := GLR.out; omega) _) (fun k hk e => by have h1 := hk.2.1; have h2 := GLR.out; omega) _)))
  · exact HelpBB.tBB.M_mono (fun k hk => hk.2.1) (HelpBB.tBB.M_lower (Nat.le_trans HB2.out.size HB3.out.size) ((Ty.M_set (T := HelpBB.tBB) (Ty.M_set (T := HelpBB.tBB) (HelpBB.tBB.M_bound HS4.out) (fun k hk e => by have h1 := hk.2.1; have h2 := GLR.out; have h3 := HB3.out.size; omega) _) (fun k hk e => by have h1 := hk.2.1; have h2 := GLR.out; have h3 := HB3.out.size; omega) _)))
  · exact Nat.le_trans HB2.out.size HB3.out.size
  · have h1 := HB34.out.size
    simp [World.setCell]
    omega
theorem bytes_spec (A : Option Addr) (n c : Nat) (ls : List (List Int)) (hn : n = ls.length) (w : World) (hr : Kd.C kB w A ls.length ls) (hc : ls.length ≤ c) (hs : smallBB ls) :
    Calls Tryz.prog 24 #[.slice A n c] w fun e w' => e = .returned (.int .i64 (totalB ls : Int)) ∧ Below w.heap.size w w' := by
  subst hn
  obtain ⟨k, hk⟩ := (bytes_ev ls hs).rounds
  refine (L.spec_l4bytes.calls k A c ls _ w hr hc hk).mono ?_
  rintro e w' ⟨rfl, hd⟩
  exact ⟨rfl, below_of_drawn hd⟩
theorem plain_spec (A : Option Addr) (n c : Nat) (ls : List (List Int)) (hn : n = ls.length) (w : World) (hr : Kd.C kB w A ls.length ls) (hc : ls.length ≤ c) (hs : smallBB ls) :
    Calls Tryz.prog 48 #[.slice A n c] w fun e w' => e = .returned (.bool (plain ls)) ∧ Below w.heap.size w w' := by
  subst hn
  obtain ⟨k, hk⟩ := (plain_ev ls hs).rounds
  refine (L.spec_l4plain.calls k A c ls _ w hr hc hk).mono ?_
  rintro e w' ⟨rfl, hd⟩
  exact ⟨rfl, below_of_drawn hd⟩
def GotS (w' : World) (st : StaT) (e : Ending) : Prop := match segsOf st with
  | none => e = .returned (.tuple #[.slice none 0 0, .bool false])
  | some ss => ∃ (Av : Option Addr) (cv : Nat), e = .returned (.tuple #[.slice Av ss.length cv, .bool true]) ∧ Kd.C kSeg w' Av ss.length ss
theorem gotS_none {w' : World} {st : StaT} {e : Ending} (h : segsOf st = none) (he : e = .returned (.tuple #[.slice none 0 0, .bool false])) : GotS w' st e := by
  unfold GotS; rw [h]; exact he
set_option maxRecDepth 100000 in
set_option maxHeartbeats 8000000 in
theorem segs_calls (st : StaT) (A0 A1 : Option Addr) (c0 c1 : Nat) (w : World) (h0 : Kd.C kB w A0 st.1.length st.1) (l0 : st.1.length ≤ c0) (h1 : Kd.C kB w A1 st.2.length st.2) (l1 : st.2.length ≤ c1) (hb0 : Bytes st.1) (s0 : smallBB st.1) (s1 : smallBB st.2) :
    Calls Tryz.prog 22 #[.agg #[.slice A0 st.1.length c0, .slice A1 st.2.length c1]] w fun e w' => GotS w' st e ∧ Grew w w' := by
  have huI := Tryz.underlying59
  have huT := Tryz.underlying27
  have q0 : st.1.length + totalB st.1 ≤ 1048576 := s0
  have q1 : st.2.length + totalB st.2 ≤ 1048576 := s1
  have H0 := Aside0.mk h0
  have HY0 := Aside0.mk hb0
  have HTT := Aside0.mk (fun (W : World) (hW : Below w.heap.size w W) => bytes_spec A1 st.2.length c1 st.2 rfl W (Kd.C_below h1 hW) l1 s1)
  have HPL := Aside0.mk (fun (W : World) (hW : Below w.heap.size w W) => plain_spec A1 st.2.length c1 st.2 rfl W (Kd.C_below h1 hW) l1 s1)
  have m1 := h1.2.1
  clear h0 h1 hb0 s0 s1
  go_enter Tryz.func22, Tryz.ntmps22
  go_wp2_with (((with_reducible refine gate_dst (N := 1) rfl ?_); refine box_event ?hg (N := 1) ?hd (cs := #[.slice A0 st.1.length c0, .slice A1 st.2.length c1]) (t := 27) ?hr ?_; (case hd => rfl); (case hg => rfl); (case hr => first | (go_simp; done) | (go_simp; rfl)); intro gp hg_ w1 hbx hbb; have BKgp := Aside0.mk hbx; have GEgp := Aside0.mk (show w.heap.size ≤ gp from Nat.le_of_eq hg_.symm); have GLgp := Aside0.mk (blk_lt hbx); have HBw1 := Aside0.mk hbb; clear hg_ hbb; obtain ⟨⟨hgpc0, hgpf0⟩, ⟨hgpc1, hgpf1⟩⟩ := cells2 hbx; clear hbx))
  go_at_call 24
  refine (HTT.out _ HBw1.out).mono ?_
  rintro e w2 ⟨rfl, hb2⟩
  have HB2 := Aside0.mk hb2
  clear hb2 hgpc0 hgpf0 hgpc1 hgpf1
  go_wp2_with fail
  go_loopg [4, 5, 6, 7] st.1.length (fun gg s4 s5 s6 s7 wr => ∃ (i : Nat) (acc : List SegT) (Ap : Option Addr) (cp : Nat), i ≤ st.1.length ∧ st.1.length - i ≤ gg ∧ s7 = .int .i64 (i : Int) ∧ s5 = .int .i64 ((nlin acc : Nat) : Int) ∧ s6 = .int .i64 (((tots acc : Nat) : Int) + (totalB st.2 : Int)) ∧ s4 = .slice Ap i cp ∧ Aside0 (Chain 0 acc (st.1.take i)) ∧ Aside0 (Kd.R kSeg 59 wr w1.heap.size (fun _ => True) (.slice Ap i cp) acc) ∧ Aside0 (Below w1.heap.size w1 wr))
  case atStart => exact ⟨0, [], none, 0, by omega, by omega, rfl, rfl, by simp [tots], rfl, ⟨.nil 0⟩, ⟨Kd.R_nil _ _ _ _ _⟩, HB2⟩
  case round =>
    obtain ⟨i, acc, Ap, cp, hi, hgg, rfl, rfl, rfl, rfl, HC, HR, HB⟩ := hrel
    obtain ⟨n1, n2, n3⟩ := chain_len0 HC.out
    have n4 : acc.length = i := by have h := chain_len HC.out; rw [List.length_take] at h; omega
    have HN4 := Aside0.mk n4
    have BP := Aside0.mk (blk_below BKgp.out HB.out)
    obtain ⟨⟨p0, p0f⟩, ⟨p1, p1f⟩⟩ := cells2 BP.out
    have HWR := Aside0.mk (show Below w.heap.size w wr from grew_trans HBw1.out HB.out)
    clear n4
    by_cases hlt : i < st.1.length
    · have hltz : (i : Int) < (st.1.length : Int) := by omega
      obtain ⟨ad, u, rfl, hcell0, hK⟩ := get_one (d := kB) rfl H0.out [] i hlt
      obtain ⟨A', c', e', hc', hr'⟩ := hK
      obtain rfl : u = .slice A' (st.1.getD i []).length c' := by injection e'
      have hcell : wr.cell? (ad.add i) = some (.slice A' (st.1.getD i []).length c') := (HWR.out.cell (World.block_lt_of_cell? w _ hcell0)).trans hcell0
      have hgl := getD_len st.1 i
      have HBY := Aside0.mk (getD_bytes HY0.out i)
      have HDE := Aside0.mk (fun (W : World) (hW : Below w.heap.size w W) => decS_calls A' c' (st.1.getD i []) W (Kd.C_below hr' hW) hc' HBY.out (by omega))
      have HST := Aside0.mk (fun h => segs_stop (st := st) HC.out hlt h)
      have HNX := Aside0.mk (fun h0 h1 => segs_next (st := st) HC.out hlt h0 h1)
      clear e' hr' hcell0 hgl
      generalize st.1.getD i [] = b at hcell hc' HDE HST HNX HBY
      go_wp2_with fail
      go_at_call 47
      refine (HDE.out _ HWR.out).mono ?_
      rintro e w5 ⟨B1, d1, B2, d2, B3, d3, rfl, hM5, hb5⟩
      have HFS := Aside0.mk (fun h => (dec_at (b := b) h).2.1)
      have HM5 := Aside0.mk hM5
      have HB5 := Aside0.mk hb5
      clear hM5 hb5
      generalize (dec b).1 = s at HM5 HST HNX HFS
      generalize (dec b).2 = cd at HST HNX HFS
      obtain ⟨⟨x0, x0f⟩, ⟨x1, x1f⟩, ⟨x2, x2f⟩, ⟨x3, x3f⟩⟩ := cells4 (blk_new w5 (.cells #[.int .i64 s.1, .slice B1 s.2.1.length d1, .slice B2 s.2.2.1.length d2, .slice B3 s.2.2.2.length d3] 59 (0, 0)))
      by_cases hgood : cd = 0 ∧ s.1 = ((nlin acc : Nat) : Int)
      case neg =>
        have HNO := Aside0.mk (HST.out hgood)
        by_cases hcd : cd = 0
        · subst hcd
          have hne : (s.1 != ((nlin acc : Nat) : Int)) = true := by simp; intro e; exact hgood ⟨rfl, e⟩
          clear hgood
          go_wp2
          go_ret2
          exact ⟨gotS_none HNO.out rfl, by have h1 := HWR.out; have h2 := HB5.out; refine grew_trans (grew_trans h1 h2) ?_; repeat (first | exact Below.refl _ _ | apply below_alloc | apply below_drew1 | apply pw_below_drewN)⟩
        · have hne : (cd != 0) = true := by simpa using hcd
          clear hgood hcd
          go_wp2
          go_ret2
          exact ⟨gotS_none HNO.out rfl, by have h1 := HWR.out; have h2 := HB5.out; refine grew_trans (grew_trans h1 h2) ?_; repeat (first | exact Below.refl _ _ | apply below_alloc | apply below_drew1 | apply pw_below_drewN)⟩
      case pos =>
        obtain ⟨hcd, hs1⟩ := hgood
        subst hcd
        have HCN := Aside0.mk (HNX.out rfl hs1)
        obtain ⟨f1, f2, f3, f4, f5, f6⟩ := fits_parts (HFS.out rfl)
        have hne : (s.1 != ((nlin acc : Nat) : Int)) = false := by simp [hs1]
        have f7 : s.2.1.length ≤ 1000 := by omega
        clear HST HNX HFS hs1 f1 f2 f3 f4 f5
        go_wp2_with fail
        obtain ⟨gq, hgq⟩ : ∃ g_, g_ = w5.heap.size := ⟨_, rfl⟩
        obtain ⟨w6, hw6⟩ : ∃ w_, w_ = w5.alloc (.cells #[.int .i64 s.1, .slice B1 s.2.1.length d1, .slice B2 s.2.2.1.length d2, .slice B3 s.2.2.2.length d3] 59 (0, 0)) := ⟨_, rfl⟩
        rw [← hw6, ← hgq] at x0 x0f x1 x1f x2 x2f x3 x3f
        rw [← hw6]
        (try rw [← hgq])
        have BKgq := Aside0.mk (show w6.heap[gq]? = some (.cells #[.int .i64 s.1, .slice B1 s.2.1.length d1, .slice B2 s.2.2.1.length d2, .slice B3 s.2.2.2.length d3] 59 (0, 0)) from by rw [hw6, hgq]; exact blk_new w5 _)
        have hb6 : Below w5.heap.size w5 w6 := by rw [hw6]; exact below_alloc (Below.refl _ _) _
        have HB6 := Aside0.mk (show Below wr.heap.size wr w6 from grew_trans HB5.out hb6)
        have HM6 := Aside0.mk (show kSeg.M w6 wr.heap.size (fun k => wr.heap.size ≤ k) s [.int .i64 s.1, .slice B1 s.2.1.length d1, .slice B2 s.2.2.1.length d2, .slice B3 s.2.2.2.length d3] from kSeg.M_mono (fun k hk => hk.2.1) (kSeg.M_bound (Kd.M_below HM5.out hb6)))
        have hk6 := kSeg_open (kSeg.K_of_M HM6.out)
        have hct : Kd.C kB w6 B1 s.2.1.length s.2.1 ∧ s.2.1.length ≤ d1 := by
          obtain ⟨E1, e1, E2, e2, E3, e3, ee, hT⟩ := hk6
          simp only [List.cons.injEq, and_true, Value.slice.injEq, true_and] at ee
          obtain ⟨⟨rfl, rfl⟩, ⟨rfl, rfl⟩, rfl, rfl⟩ := ee
          obtain ⟨⟨F1, e1, ee, hl, hr⟩, _, _⟩ := Decode.seg_parts hT
          obtain ⟨rfl, rfl⟩ : B1 = F1 ∧ d1 = e1 := by injection ee with x1 x2 x3; exact ⟨x1, x3⟩
          exact ⟨hr, hl⟩
        have htt := bytes_spec B1 s.2.1.length d1 s.2.1 rfl w6 hct.1 hct.2 (by show _ ≤ _; omega)
        clear hgq hw6 hb6 hk6 hct
        go_at_call 24
        refine htt.mono ?_
        rintro e w7 ⟨rfl, hb7⟩
        have HB7 := Aside0.mk (show Below wr.heap.size wr w7 from grew_trans HB6.out hb7)
        have HM7 := Aside0.mk (show kSeg.M w7 wr.heap.size (fun k => wr.heap.size ≤ k) s [.int .i64 s.1, .slice B1 s.2.1.length d1, .slice B2 s.2.2.1.length d2, .slice B3 s.2.2.2.length d3] from Kd.M_below HM6.out hb7)
        have HOL := Aside0.mk (fun k (h : (Value.slice Ap i cp).ownBlock = some k) => Kd.R_lt HR.out k h)
        have BQ7 := Aside0.mk (blk_below BKgq.out hb7)
        clear htt hb7 x0 x0f x1 x1f x2 x2f x3 x3f
        obtain ⟨⟨x0, x0f⟩, ⟨x1, x1f⟩, ⟨x2, x2f⟩, ⟨x3, x3f⟩⟩ := cells4 BQ7.out
        go_wp2_with (at_builtin; refine Kd.R_append kSeg (w0 := w1) w1.heap.size rfl (.tmp 47) (.tmp 49) 44 59 (.agg #[.int .i64 0, .slice none 0 0, .slice none 0 0, .slice none 0 0]) 80 rfl Tryz.underlying44 infoSeg rfl (by decide) (by omega) (.slice Ap i cp) acc s [.int .i64 s.1, .slice B1 s.2.1.length d1, .slice B2 s.2.2.1.length d2, .slice B3 s.2.2.2.length d3] (fun _ => True) (fun k => wr.heap.size ≤ k) rfl rfl ?aP ?aK (fun _ _ => trivial) ?aO ?aB ?aS ?aL ?_; (case aP => exact kSeg.M_lower HB.out.size HM7.out); (case aK => exact fun k hk => ⟨trivial, fun e => by have h2 : wr.heap.size ≤ k := hk; have h3 := HOL.out k e.symm; omega⟩); (case aO => exact Kd.R_below HR.out HB7.out); (case aB => exact grew_trans HB.out HB7.out); (case aS => exact (grew_trans HB.out HB7.out).size); (case aL => omega); intro v8 w8 hO8 hB8 hg8 hat8; obtain ⟨A8, c8, e8⟩ := Kd.R_slice hO8; rw [show (acc ++ [s]).length = i + 1 from by have h4 := HN4.out; rw [List.length_append, List.length_singleton]; omega] at e8; subst e8; have HO8 := Aside0.mk hO8; have HB8 := Aside0.mk hB8; clear hO8 hB8 hg8 hat8)
        go_roundg (st.1.length - (i + 1))
        case measure => omega
        case rel =>
          refine ⟨i + 1, acc ++ [s], A8, c8, by omega, by omega, by go_num, ?_, ?_, rfl, ⟨HCN.out⟩, HO8, HB8⟩
          · rw [nlin_append, nlin_one]; go_num
          · rw [tots_append, tots_one]
            congr 1
            omega
    · have hltz : ¬ (i : Int) < (st.1.length : Int) := by omega
      obtain rfl : i = st.1.length := by omega
      have hC := HC.out
      rw [List.take_length] at hC
      have HSA := Aside0.mk (segs_all (st := st) hC)
      have hct := HPL.out wr HWR.out
      clear hC HC
      cases hp : plain st.2 with
      | false =>
        rw [hp] at hct
        have HNO := Aside0.mk (show segsOf st = none from by rw [HSA.out, if_neg (fun h => by rw [hp] at h; exact Bool.noConfusion h.1)])
        clear hp
        go_wp2_with (go_at_call 48; refine hct.mono ?_; rintro e w8 ⟨rfl, hb8⟩)
        go_ret2
        exact ⟨gotS_none HNO.out rfl, grew_trans HWR.out hb8⟩
      | true =>
        rw [hp] at hct
        have HP := Aside0.mk hp
        clear hp
        by_cases hlen : nlin acc + st.2.length ≤ 1000
        case neg =>
          have hlz : ¬ (((nlin acc : Nat) : Int) + (st.2.length : Int) ≤ 1000) := by omega
          have HNO := Aside0.mk (show segsOf st = none from by rw [HSA.out, if_neg (fun h => hlen h.2.1)])
          go_wp2_with (go_at_call 48; refine hct.mono ?_; rintro e w8 ⟨rfl, hb8⟩; have HB8 := Aside0.mk hb8; obtain ⟨⟨t0, t0f⟩, ⟨t1, t1f⟩⟩ := cells2 (blk_below BP.out hb8); clear hb8)
          go_ret2
          exact ⟨gotS_none HNO.out rfl, grew_trans HWR.out HB8.out⟩
        case pos =>
          have hlz : ((nlin acc : Nat) : Int) + (st.2.length : Int) ≤ 1000 := by omega
          by_cases htot : tots acc + totalB st.2 ≤ 20000
          case neg =>
            have htz : ¬ (((tots acc : Nat) : Int) + (totalB st.2 : Int) ≤ 20000) := by omega
            have HNO := Aside0.mk (show segsOf st = none from by rw [HSA.out, if_neg (fun h => htot h.2.2)])
            go_wp2_with (go_at_call 48; refine hct.mono ?_; rintro e w8 ⟨rfl, hb8⟩; have HB8 := Aside0.mk hb8; obtain ⟨⟨t0, t0f⟩, ⟨t1, t1f⟩⟩ := cells2 (blk_below BP.out hb8); clear hb8)
            go_ret2
            exact ⟨gotS_none HNO.out rfl, grew_trans HWR.out HB8.out⟩
          case pos =>
            have htz : ((tots acc : Nat) : Int) + (totalB st.2 : Int) ≤ 20000 := by omega
            have HYES := Aside0.mk (show segsOf st = some acc from by rw [HSA.out, if_pos ⟨HP.out, hlen, htot⟩])
            go_wp2_with (go_at_call 48; refine hct.mono ?_; rintro e w8 ⟨rfl, hb8⟩; have HB8 := Aside0.mk hb8; obtain ⟨⟨t0, t0f⟩, ⟨t1, t1f⟩⟩ := cells2 (blk_below BP.out hb8); clear hb8)
            go_ret2
            refine ⟨?_, grew_trans HWR.out HB8.out⟩
            unfold GotS
            rw [HYES.out]
            show ∃ (Av : Option Addr) (cv : Nat), _ = Ending.returned (.tuple #[.slice Av acc.length cv, .bool true]) ∧ Kd.C kSeg w8 Av acc.length acc
            rw [HN4.out]
            refine ⟨Ap, cp, rfl, ?_⟩
            have h := (Kd.R_reads' (Kd.R_below HR.out HB8.out)).2.2
            rw [HN4.out] at h
            exact h
end Go.Proofs.YtmgmdnmfalepkaaGreat.SegS
