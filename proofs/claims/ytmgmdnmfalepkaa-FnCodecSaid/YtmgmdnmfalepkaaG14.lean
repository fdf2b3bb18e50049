/- Parts of the proof (see the row's own text): Bld, Ldec, PDecS. -/
import Derived.Test.YtmgmdnmfalepkaaG00
import Derived.Test.YtmgmdnmfalepkaaG8
import Derived.Test.YtmgmdnmfalepkaaG12
import Derived.Test.YtmgmdnmfalepkaaG10
import Derived.Test.YtmgmdnmfalepkaaG6
import Derived.Test.YtmgmdnmfalepkaaG7
import Derived.Test.YtmgmdnmfalepkaaG5
import Derived.Test.YtmgmdnmfalepkaaG4
import Derived.Test.YtmgmdnmfalepkaaG9
import Derived.Lib.Bytes
namespace Go.Proofs.Ytmgmdnmfalepkaa.Bld
open Go.RowKit Go.Proofs.YtmgmdnmfalepkaaW.PrintWords Go.Proofs.YtmgmdnmfalepkaaW.PrintMore Go.Proofs.Ytmgmdnmfalepkaa.Kit Go.Proofs.Ytmgmdnmfalepkaa.PKit Go.Proofs.Ytmgmdnmfalepkaa.Ty Go.Proofs.Ytmgmdnmfalepkaa.PTri Go.Proofs.Ytmgmdnmfalepkaa.PSeg Go.Proofs.Ytmgmdnmfalepkaa.Build Go.Proofs.Ytmgmdnmfalepkaa.HelpBB
set_option linter.unusedVariables false
set_option linter.unusedSimpArgs false
theorem cells4 {w : World} {g : Nat} {t : TypeId} {a0 a1 a2 a3 : Value} (h : w.heap[g]? = some (.cells #[a0, a1, a2, a3] t (0, 0))) : (w.cell? ⟨g, 0, none⟩ = some a0 ∧ w.frozen? ⟨g, 0, none⟩ = false) ∧ (w.cell? ⟨g, 1, none⟩ = some a1 ∧ w.frozen? ⟨g, 1, none⟩ = false) ∧ (w.cell? ⟨g, 2, none⟩ = some a2 ∧ w.frozen? ⟨g, 2, none⟩ = false) ∧ (w.cell? ⟨g, 3, none⟩ = some a3 ∧ w.frozen? ⟨g, 3, none⟩ = false) := ⟨⟨(blk_cell h 0).trans rfl, blk_frozen h 0⟩, ⟨(blk_cell h 1).trans rfl, blk_frozen h 1⟩, ⟨(blk_cell h 2).trans rfl, blk_frozen h 2⟩, ⟨(blk_cell h 3).trans rfl, blk_frozen h 3⟩⟩
theorem infoI : (Try.prog.info? 3).map (fun i => (i.zero, i.size, i.bytes)) = some (some (.int .i64 0), 1, 8) := by kernel_rfl
theorem infoII : (Try.prog.info? 22).map (fun i => (i.zero, i.size, i.bytes)) = some (some (.slice none 0 0), 1, 24) := by kernel_rfl
theorem tri_calls (A : Option Addr) (c : Nat) (l : List Int) (w : World) (hr : Kd.C (Kd.int .u8) w A l.length l) (hc : l.length ≤ c) (hb : ∀ x ∈ l, 0 ≤ x ∧ x ≤ 255) (hs : l.length ≤ 1048576) :
  Calls Try.prog 19 #[.slice A l.length c] w fun e w' => ∃ v, e = .returned v ∧ Kd.R (Kd.int .i64) 3 w' w.heap.size (fun _ => True) v (ord (tris l)) ∧ Below w.heap.size w w' := by
 obtain ⟨k, hk⟩ := (PTri.spec_ev l hb hs).rounds
 exact L.spec_Trigrams.calls k A c l _ w hr hc hk
theorem copy_spec (A : Option Addr) (c : Nat) (ls : List (List Int)) (w : World) (hr : Kd.C kB w A ls.length ls) (hc : ls.length ≤ c) (hs : smallBB ls) :
  Calls Try.prog 134 #[.slice A ls.length c] w fun e w' => ∃ v, e = .returned v ∧ Kd.S kB 33 w' w.heap.size (fun _ => True) v ls ∧ Below w.heap.size w w' := by
 obtain ⟨k, hk⟩ := (copy_ev ls hs).rounds
 exact L.spec_l4copy.calls k A c ls _ w hr hc hk
theorem keys_spec (A : Option Addr) (c : Nat) (ls : List (List Int)) (w : World) (hr : Kd.C kB w A ls.length ls) (hc : ls.length ≤ c) (hb : Bytes ls) (hs : smallBB ls) :
  Calls Try.prog 135 #[.slice A ls.length c] w fun e w' => ∃ v, e = .returned v ∧ Kd.R (Kd.int .i64) 3 w' w.heap.size (fun _ => True) v (keys ls) ∧ Below w.heap.size w w' := by
 obtain ⟨k, hk⟩ := (keys_ev ls.length ls (Nat.le_refl _) hb hs).rounds
 exact L.spec_l4keys.calls k A c ls _ w hr hc hk
theorem inl_calls (A : Option Addr) (c : Nat) (T : List Int) (t : Int) (W : World) (hr : Kd.C (Kd.int .i64) W A T.length T) (hc : T.length ≤ c) (hl : T.length ≤ 1048576) :
  Calls Try.prog 136 #[.slice A T.length c, .int .i64 t] W fun e w' => e = .returned (.bool (decide (t ∈ T))) ∧ ∃ nd, w' = W.drewN nd := by
 obtain ⟨k, hk⟩ := (inList_ev T t zq3).rounds
 refine (L.spec_l2inList.calls k A c T t _ W hr hc hk).mono ?_
 rintro e w' ⟨rfl, hd⟩
 exact ⟨rfl, hd.out⟩
set_option maxRecDepth 100000 in
set_option maxHeartbeats 8000000 in
theorem bld_calls (b : Int) (A : Option Addr) (n c : Nat) (ls : List (List Int)) (hn : n = ls.length) (w : World) (hr : Kd.C kB w A ls.length ls) (hc : ls.length ≤ c) (hb : Bytes ls) (hs : smallBB ls) (b0 : 0 ≤ b) (b1 : b ≤ 1000) (hl : ls.length ≤ 1000) :
  Calls Try.prog 92 #[.int .i64 b, .slice A n c] w fun e w' => ∃ (A1 : Option Addr) (c1 : Nat) (A2 : Option Addr) (c2 : Nat) (A3 : Option Addr) (c3 : Nat), e = .returned (.agg #[.int .i64 b, .slice A1 n c1, .slice A2 (keys ls).length c2, .slice A3 (keys ls).length c3]) ∧ HelpBB.tBB.M w' w.heap.size (fun _ => True) ls (.slice A1 n c1) ∧ HelpI.tI.M w' w.heap.size (fun _ => True) (keys ls) (.slice A2 (keys ls).length c2) ∧ HelpII.tII.M w' w.heap.size (fun _ => True) ((keys ls).map (post b ls ls.length)) (.slice A3 (keys ls).length c3) ∧ Grew w w' := by
 subst hn
 have huI := Try.underlying50
 have HR := zA hr
 have HY := zA hb
 have hcp := fun (W : World) (hW : Below w.heap.size w W) => copy_spec A c ls W (Kd.C_below HR.out hW) hc hs
 have hky := fun (W : World) (hW : Below w.heap.size w W) => keys_spec A c ls W (Kd.C_below HR.out hW) hc HY.out hs
 have HCP := zA hcp
 have HKY := zA hky
 have HSM := zA hs
 clear hr hb hcp hky hs
 go_enter Try.func92, Try.ntmps92
 go_wp2_with (((with_reducible refine gate_dst (N := 4) rfl ?_); refine box_event ?hg (N := 4) ?hd (cs := #[.int .i64 0, .slice none 0 0, .slice none 0 0, .slice none 0 0]) (t := 50) ?hr ?_; (case hd => rfl); (case hg => rfl); (case hr => first | (go_simp; done) | (go_simp; rfl)); intro gr hg_ w1 hbx hbb; have BKgr := zA hbx; have GEgr := zA (show w.heap.size ≤ gr from Nat.le_of_eq hg_.symm); have GLgr := zA (blk_lt hbx); have HBw1 := zA hbb; clear hg_ hbb; obtain ⟨⟨hgrc0, hgrf0⟩, ⟨hgrc1, hgrf1⟩, ⟨hgrc2, hgrf2⟩, ⟨hgrc3, hgrf3⟩⟩ := cells4 hbx; clear hbx))
 go_at_call 134
 refine (HCP.out _ HBw1.out).mono ?_
 rintro e w2 ⟨v2, rfl, hS2, hb2⟩
 obtain ⟨A1, c1, rfl⟩ := Kd.S_slice hS2
 have HC2 := zA hS2
 have HB12 := zA hb2
 have HB2 := zA (show Below w.heap.size w w2 from grew_trans HBw1.out hb2)
 replace BKgr := zA (blk_below BKgr.out hb2)
 clear hgrc0 hgrf0 hgrc1 hgrf1 hgrc2 hgrf2 hgrc3 hgrf3
 clear hS2 hb2
 go_wp2_with fail
 obtain ⟨gs, hgs⟩ : ∃ g_, g_ = w2.heap.size := ⟨_, rfl⟩
 obtain ⟨w3, hw3⟩ : ∃ w_, w_ = w2.alloc (.cells #[.int .i64 b, .slice A1 ls.length c1, .slice none 0 0, .slice none 0 0] 50 (0, 0)) := ⟨_, rfl⟩
 rw [← hw3, ← hgs]
 have BKgs := zA (show w3.heap[gs]? = some (.cells #[.int .i64 b, .slice A1 ls.length c1, .slice none 0 0, .slice none 0 0] 50 (0, 0)) from by rw [hw3, hgs]; exact blk_new w2 _)
 have hb3 : Below w2.heap.size w2 w3 := by rw [hw3]; exact below_alloc (Below.refl _ _) _
 have GS := zA (show w2.heap.size ≤ gs from Nat.le_of_eq hgs.symm)
 have HB23 := zA hb3
 have HB3 := zA (show Below w.heap.size w w3 from grew_trans HB2.out hb3)
 replace BKgr := zA (blk_below BKgr.out hb3)
 have GSL := zA (blk_lt BKgs.out)
 have NEGR := zA (show gr ≠ gs from fun e => by have h1 := GLgr.out; have h2 := GS.out; have h3 := HB12.out.size; omega)
 clear hgs hw3 hb3
 go_at_call 135
 refine (HKY.out w3 HB3.out).mono ?_
 rintro e w4 ⟨v4, rfl, hR4, hb4⟩
 obtain ⟨A2, c2, rfl⟩ := Kd.R_slice hR4
 replace BKgr := zA (blk_below BKgr.out hb4)
 replace BKgs := zA (blk_below BKgs.out hb4)
 have HB34 := zA hb4
 have HR4 := zA hR4
 have HB4 := zA (show Below w.heap.size w w4 from grew_trans HB3.out hb4)
 clear hR4 hb4
 obtain ⟨⟨sc0, sf0⟩, ⟨sc1, sf1⟩, ⟨sc2, sf2⟩, ⟨sc3, sf3⟩⟩ := cells4 BKgs.out
 go_wp2_with fail
 obtain ⟨w5, hw5⟩ : ∃ w_, w_ = w4.setCell ⟨gs, 2, none⟩ (.slice A2 (keys ls).length c2) := ⟨_, rfl⟩
 rw [← hw5]
 have HZ45 := zA (show w5.heap.size = w4.heap.size from by rw [hw5]; simp [World.setCell])
 have HB45 := zA (show Below w.heap.size w w5 from by rw [hw5]; exact below_set HB4.out (Nat.le_trans HB2.out.size GS.out))
 replace BKgs := zA (show w5.heap[gs]? = some (.cells #[.int .i64 b, .slice A1 ls.length c1, .slice A2 (keys ls).length c2, .slice none 0 0] 50 (0, 0)) from by rw [hw5]; exact blk_put (cs := #[.int .i64 b, .slice A1 ls.length c1, .slice none 0 0, .slice none 0 0]) BKgs.out 2 _ rfl)
 replace BKgr := zA (show w5.heap[gr]? = some (.cells #[.int .i64 0, .slice none 0 0, .slice none 0 0, .slice none 0 0] 50 (0, 0)) from by rw [hw5]; exact blk_far BKgr.out NEGR.out _)
 have HZ5 := zA (show w3.heap.size ≤ w5.heap.size from by have h1 := HZ45.out; have h2 := HB34.out.size; omega)
 replace HC2 := zA (show HelpBB.tBB.M w5 w.heap.size (fun k => gr < k ∧ k < gs) ls (.slice A1 ls.length c1) from by
  rw [hw5]
  exact HelpBB.tBB.M_mono (fun k hk => by have h1 := hk.2.2; have h2 := GS.out; have h3 := hk.2.1; have h4 := GLgr.out; exact ⟨zq3, zq3⟩) (Ty.M_set (T := HelpBB.tBB) (Ty.M_below (T := HelpBB.tBB) (HelpBB.tBB.M_lower HBw1.out.size (HelpBB.tBB.M_bound HC2.out)) (grew_trans HB23.out HB34.out)) (fun k hk e => by have h1 := hk.2.2; have h2 := GS.out; omega) _))
 replace HR4 := zA (show HelpI.tI.M w5 w.heap.size (fun k => gs < k ∧ k < w5.heap.size) (keys ls) (.slice A2 (keys ls).length c2) from by
  have hz := HZ45.out
  rw [hz, hw5]
  exact HelpI.tI.M_mono (fun k hk => by have h1 := hk.2.1; have h2 := GSL.out; have h3 := hk.2.2; exact ⟨zq3, h3⟩) (Ty.M_set (T := HelpI.tI) (HelpI.tI.M_lower HB3.out.size (HelpI.tI.M_bound HR4.out)) (fun k hk e => by have h1 := hk.2.1; have h2 := GSL.out; omega) _))
 clear hw5 sc0 sf0 sc1 sf1 sc2 sf2 sc3 sf3
 go_loopg [6, 7] ls.length (fun gg s6 s7 wr => ∃ i : Nat, i ≤ ls.length ∧ ls.length - i ≤ gg ∧ s7 = .int .i64 (i : Int) ∧ Aside0 (Kd.S HelpII.kI 22 wr w5.heap.size (fun _ => True) s6 ((ls.take i).map fun l => ord (tris l))) ∧ Aside0 (Below w5.heap.size w5 wr))
 case atStart => exact ⟨0, zq3, zq3, rfl, ⟨Kd.S_nil _ _ _ _ _⟩, ⟨Below.refl _ _⟩⟩
 case round =>
  obtain ⟨i, hi, hg, rfl, HS, HB⟩ := hrel
  by_cases hlt : i < ls.length
  ·have hltz : (i : Int) < (ls.length : Int) := by omega
   have ht := getD_len ls i
   have hsm : ls.length + totalB ls ≤ 1048576 := HSM.out
   have HBT := zA (show Below w.heap.size w wr from grew_trans HB45.out HB.out)
   obtain ⟨ad, u, rfl, hcell0, hK⟩ := get_one (d := kB) rfl HR.out [] i hlt
   obtain ⟨A', c', e', hc', hr'⟩ := hK
   obtain rfl : u = .slice A' (ls.getD i []).length c' := by injection e'
   have hcell : wr.cell? (ad.add i) = some (.slice A' (ls.getD i []).length c') := (HBT.out.cell (World.block_lt_of_cell? w _ hcell0)).trans hcell0
   have htr := tri_calls A' c' (ls.getD i []) wr (Kd.C_below hr' HBT.out) hc' (getD_bytes HY.out i) zq3
   have hts : (ls.take (i + 1)).map (fun l => ord (tris l)) = (ls.take i).map (fun l => ord (tris l)) ++ [ord (tris (ls.getD i []))] := by rw [take_snoc ls i hlt, List.map_append]; rfl
   have hol : (ord (tris (ls.getD i []))).length ≤ 1048576 := by have h1 := ord_len (tris (ls.getD i [])); have h2 := tris_length (ls.getD i []); omega
   have HTR := zA htr
   have HTS := zA hts
   clear hr' e' hcell0 htr hts hsm
   generalize ord (tris (ls.getD i [])) = T at HTR HTS hol
   generalize ls.getD i [] = l at ht hcell hc' HTR
   go_wp2_with (first | (go_at_call 19; refine HTR.out.mono ?_; rintro e w7 ⟨v7, rfl, hR7, hb7⟩; obtain ⟨Av, cv, rfl⟩ := Kd.R_slice hR7) | (at_builtin; refine Kd.S_append HelpII.kI (w0 := w5) w5.heap.size rfl (.tmp 24) (.tmp 30) 42 22 (.slice none 0 0) 24 rfl Try.underlying42 infoII rfl zq13 zq3 u6 ((ls.take i).map fun l => ord (tris l)) T [.slice Av T.length cv] (fun _ => True) (fun k_ => some k_ = (.slice Av T.length cv : Value).ownBlock) rfl rfl ?aP ?aK (fun _ _ => trivial) ?aO ?aB ?aS ?aL ?_; (case aP => exact Kd.M_row (Kd.R_lower (Kd.R_tight rfl hR7) HB.out.size)); (case aK => exact fun k hk => ⟨trivial, fun e => by have h1 := Kd.R_base hR7 k hk.symm; have h2 := Kd.S_lt HS.out k e.symm; omega⟩); (case aO => exact Kd.S_mono (Kd.S_old HS.out hb7) (fun k hk => ⟨trivial, fun e => by have h1 := Kd.R_base hR7 k e.symm; have h2 := hk.2; omega⟩)); (case aB => exact grew_trans HB.out hb7); (case aS => exact (grew_trans HB.out hb7).size); (case aL => (rw [List.length_map, List.length_take]; omega)); intro v8 w8 hO8 hB8 hg8 hat8))
   go_roundg (ls.length - (i + 1))
   case measure => omega
   case rel => exact ⟨i + 1, zq3, zq3, by go_num, ⟨by rw [HTS.out]; exact hO8⟩, ⟨hB8⟩⟩
  ·have hltz : ¬ (i : Int) < (ls.length : Int) := by omega
   obtain rfl : i = ls.length := by omega
   have hS := HS.out
   rw [List.take_length] at hS
   obtain ⟨A4, c4, rfl⟩ := Kd.S_slice hS
   have HT := zA (show HelpII.tII.M wr w5.heap.size (fun k => w5.heap.size ≤ k ∧ k < wr.heap.size) (ls.map fun l => ord (tris l)) (.slice A4 (ls.map fun l => ord (tris l)).length c4) from HelpII.tII.M_mono (fun k hk => ⟨hk.2.1, hk.2.2⟩) (HelpII.tII.M_bound hS))
   rename World => wP
   replace BKgs := zA (blk_below BKgs.out HB.out)
   replace BKgr := zA (blk_below BKgr.out HB.out)
   replace HC2 := zA (Ty.M_below (T := HelpBB.tBB) HC2.out HB.out)
   replace HR4 := zA (Ty.M_below (T := HelpI.tI) HR4.out HB.out)
   have HBP := zA (show Below w.heap.size w wP from grew_trans HB45.out HB.out)
   have HZP := zA HB.out.size
   have GSP := zA (blk_lt BKgs.out)
   have hkl : (keys ls).length ≤ 1048576 := by have h1 := keys_len ls; have h2 : ls.length + totalB ls ≤ 1048576 := HSM.out; omega
   clear hS HS HB
   go_wp2_with fail
   go_loopg [8] (keys ls).length (fun gg s8 wr => ∃ (j : Nat) (Ap : Option Addr) (cp : Nat), j ≤ (keys ls).length ∧ (keys ls).length - j ≤ gg ∧ s8 = .int .i64 (j : Int) ∧ Aside0 (wr.heap[gs]? = some (.cells #[.int .i64 b, .slice A1 ls.length c1, .slice A2 (keys ls).length c2, .slice Ap j cp] 50 (0, 0))) ∧ Aside0 (Kd.S HelpII.kI 22 wr w.heap.size (fun k => wP.heap.size ≤ k) (.slice Ap j cp) (((keys ls).take j).map (post b ls ls.length))) ∧ Aside0 (∀ k, (Value.slice Ap j cp).ownBlock = some k → wP.heap.size ≤ k) ∧ Aside0 (Kept wP wr (fun k => k = gs)) ∧ Aside0 (Below w.heap.size w wr))
   case atStart => exact ⟨0, none, 0, zq3, zq3, rfl, BKgs, ⟨Kd.S_nil _ _ _ _ _⟩, ⟨fun k hk => by simp [Value.ownBlock] at hk⟩, ⟨Kept.refl _ _⟩, HBP⟩
   case round =>
    obtain ⟨j, Ap, cp, hj, hg, rfl, HG, HS, HO, HK, HB⟩ := hrel
    by_cases hlj : j < (keys ls).length
    ·have hljz : (j : Int) < ((keys ls).length : Int) := by omega
     rename World => wq
     have hz9 := HK.out.1
     have HKC := zA (Kd.R_reads' (show Kd.R (Kd.int .i64) 3 wq w.heap.size _ (.slice A2 (keys ls).length c2) (keys ls) from Ty.M_kept (T := HelpI.tI) HR4.out HK.out (fun k hk e => by have h1 := hk.1; omega))).2.2
     have HTC := zA (Kd.S_reads' (show Kd.S HelpII.kI 22 wq w5.heap.size _ (.slice A4 (ls.map fun l => ord (tris l)).length c4) (ls.map fun l => ord (tris l)) from Ty.M_kept (T := HelpII.tII) HT.out HK.out (fun k hk e => by have h1 := hk.1; have h2 := GSL.out; have h3 := HZ5.out; omega))).2.2
     obtain ⟨adk, uk, rfl, hck, hKk⟩ := get_one (d := Kd.int .i64) rfl HKC.out 0 j hlj
     obtain rfl : uk = .int .i64 ((keys ls).getD j 0) := by cases hKk; rfl
     have HCK := zA hck
     have HTK := zA (show ((keys ls).take (j + 1)).map (post b ls ls.length) = ((keys ls).take j).map (post b ls ls.length) ++ [post b ls ls.length ((keys ls).getD j 0)] from by rw [List.take_succ_eq_append_getElem hlj, List.map_append]; simp [List.getD, List.getElem?_eq_getElem hlj])
     clear hck hKk HKC
     generalize (keys ls).getD j 0 = t at HCK HTK
     obtain ⟨⟨qc0, qf0⟩, ⟨qc1, qf1⟩, ⟨qc2, qf2⟩, ⟨qc3, qf3⟩⟩ := cells4 HG.out
     go_wp2_with fail
     clear qc0 qf0 qc1 qf1 qc2 qf2 qc3 qf3
     go_loopg [9, 10] ls.length (fun gg s9 s10 wr => ∃ i : Nat, i ≤ ls.length ∧ ls.length - i ≤ gg ∧ s10 = .int .i64 (i : Int) ∧ Aside0 (Kd.R (Kd.int .i64) 3 wr wq.heap.size (fun _ => True) s9 (post b ls i t)) ∧ Aside0 (Below wq.heap.size wq wr))
     case atStart => exact ⟨0, zq3, zq3, rfl, ⟨Kd.R_nil _ _ _ _ _⟩, ⟨Below.refl _ _⟩⟩
     case round =>
      obtain ⟨i, hi, hg, rfl, HR, HBI⟩ := hrel
      rename World => wi
      have BI := zA (blk_below HG.out HBI.out)
      by_cases hlt : i < ls.length
      ·have hltz : (i : Int) < (ls.length : Int) := by omega
       obtain ⟨adt, ut, rfl, hct, hKt⟩ := get_one (d := HelpII.kI) rfl HTC.out [] i (by rw [List.length_map]; exact hlt)
       obtain ⟨A', c', e', hc', hr'⟩ := hKt
       obtain rfl : ut = .slice A' ((ls.map fun l => ord (tris l)).getD i []).length c' := by injection e'
       have hT : (ls.map fun l => ord (tris l)).getD i [] = ord (tris (ls.getD i [])) := by simp [List.getD, List.getElem?_eq_getElem hlt]
       have hdec : decide (t ∈ (ls.map fun l => ord (tris l)).getD i []) = hasT ls t i := by
        rw [hT]
        unfold hasT
        exact decide_eq_decide.2 (mem_ord _ _)
       have htl : ((ls.map fun l => ord (tris l)).getD i []).length ≤ 1048576 := by
        have hsm : ls.length + totalB ls ≤ 1048576 := HSM.out
        have h1 := ord_len (tris (ls.getD i [])); have h2 := tris_length (ls.getD i []); have h3 := getD_len ls i
        rw [hT]; omega
       have HPS := zA (post_succ b ls i t)
       generalize (ls.map fun l => ord (tris l)).getD i [] = T at hct hc' hr' hdec htl
       have hcell : wi.cell? (adt.add i) = some (.slice A' T.length c') := (HBI.out.cell (World.block_lt_of_cell? wq _ hct)).trans hct
       have hck : wi.cell? (adk.add j) = some (.int .i64 t) := (HBI.out.cell (World.block_lt_of_cell? wq _ HCK.out)).trans HCK.out
       generalize hasT ls t i = hh at hdec HPS
       have HIN := zA (fun (W : World) (hW : Below wi.heap.size wi W) => show Calls Try.prog 136 #[.slice A' T.length c', .int .i64 t] W fun e w' => e = .returned (.bool hh) ∧ ∃ nd, w' = W.drewN nd from (inl_calls A' c' T t W (Kd.C_below (Kd.C_below hr' HBI.out) hW) hc' htl).mono (by rintro e w' ⟨rfl, h⟩; exact ⟨by rw [hdec], h⟩))
       clear hr' e' hT htl hdec
       obtain ⟨A9, c9, rfl⟩ := Kd.R_slice HR.out
       have hpl := post_len b ls i t
       have HPL := zA (show (post b ls i t).length ≤ 1000 from by omega)
       clear hpl
       generalize post b ls i t = P at HR HPS HPL
       have hwb : wrap64 (b + (i : Int)) = b + (i : Int) := wrap_in zq3
       have HWB := zA hwb
       clear hwb
       obtain ⟨⟨pc0, pf0⟩, ⟨pc1, pf1⟩, ⟨pc2, pf2⟩, ⟨pc3, pf3⟩⟩ := cells4 BI.out
       cases hh with
       | true =>
        go_wp2_with fail
        go_quiet ((go_at_call 136; (with_reducible refine (HIN.out _ ?s1).mono ?_); (case s1 => repeat (first | exact Below.refl _ _ | apply below_alloc | apply below_drew1 | apply pw_below_drewN)); rintro e w' ⟨rfl, ⟨nd, rfl⟩⟩; (try first | exact ⟨rfl, _, World.drewN_drewN _ _ _⟩ | exact ⟨rfl, _, Eq.trans (World.drewN_drewN _ _ _) (congrArg (World.drewN _) (Nat.add_assoc _ _ _))⟩)))
        go_wp2_with (at_builtin; refine Kd.R_append (Kd.int .i64) (w0 := wq) wq.heap.size rfl (.tmp 55) (.tmp 59) 22 3 (.int .i64 0) 8 rfl Try.underlying22 infoI rfl zq13 zq3 (.slice A9 P.length c9) P (b + (i : Int)) [.int .i64 (b + (i : Int))] (fun _ => True) (fun _ => False) rfl ?aQ ?aP (fun _ hk => hk.elim) (fun _ _ => trivial) ?aO ?aB ?aS ?aL ?_; (case aQ => (try rw [← HWB.out]); rfl); (case aP => rfl); (case aO => apply Kd.R_drewN; exact HR.out); (case aB => apply pw_below_drewN; exact HBI.out); (case aS => exact below_size (by apply pw_below_drewN; exact HBI.out)); (case aL => have := HPL.out; omega); intro v7 w7 hO7 hB7 hg7 hat7)
        go_roundg (ls.length - (i + 1))
        case measure => omega
        case rel => exact ⟨i + 1, zq3, zq3, by go_num, ⟨by rw [HPS.out]; simpa using hO7⟩, ⟨hB7⟩⟩
       | false =>
        go_wp2_with fail
        go_quiet ((go_at_call 136; (with_reducible refine (HIN.out _ ?s1).mono ?_); (case s1 => repeat (first | exact Below.refl _ _ | apply below_alloc | apply below_drew1 | apply pw_below_drewN)); rintro e w' ⟨rfl, ⟨nd, rfl⟩⟩; (try first | exact ⟨rfl, _, World.drewN_drewN _ _ _⟩ | exact ⟨rfl, _, Eq.trans (World.drewN_drewN _ _ _) (congrArg (World.drewN _) (Nat.add_assoc _ _ _))⟩)))
        go_wp2_with fail
        go_roundg (ls.length - (i + 1))
        case measure => omega
        case rel => exact ⟨i + 1, zq3, zq3, by go_num, ⟨by rw [HPS.out]; simp only [Bool.false_eq_true, if_false, List.append_nil]; apply Kd.R_drewN; exact HR.out⟩, ⟨by apply pw_below_drewN; exact HBI.out⟩⟩
      ·have hltz : ¬ (i : Int) < (ls.length : Int) := by omega
       obtain rfl : i = ls.length := by omega
       obtain ⟨A9, c9, rfl⟩ := Kd.R_slice HR.out
       have HSL := zA (show (post b ls ls.length t).length ≤ 1000 from by have h1 := post_len b ls ls.length t; omega)
       have HSQ := zA (show HelpII.tII.M wi w.heap.size (fun k => wP.heap.size ≤ k ∧ k < wq.heap.size) (((keys ls).take j).map (post b ls ls.length)) (.slice Ap j cp) from HelpII.tII.M_mono (fun k hk => ⟨hk.1, hk.2.2⟩) (Ty.M_below (T := HelpII.tII) (HelpII.tII.M_bound HS.out) HBI.out))
       have HOL := zA (fun k (h : (Value.slice Ap j cp).ownBlock = some k) => Kd.S_lt HS.out k h)
       have HPB := zA (fun k (h : (Value.slice A9 (post b ls ls.length t).length c9).ownBlock = some k) => Kd.R_base HR.out k h)
       obtain ⟨⟨pc0, pf0⟩, ⟨pc1, pf1⟩, ⟨pc2, pf2⟩, ⟨pc3, pf3⟩⟩ := cells4 BI.out
       go_wp2_with (at_builtin; refine Kd.S_append HelpII.kI (w0 := w) w.heap.size rfl (.tmp 62) (.tmp 64) 42 22 (.slice none 0 0) 24 rfl Try.underlying42 infoII rfl zq13 zq3 (.slice Ap j cp) (((keys ls).take j).map (post b ls ls.length)) (post b ls ls.length t) [.slice A9 (post b ls ls.length t).length c9] (fun k => wP.heap.size ≤ k) (fun k_ => some k_ = (.slice A9 (post b ls ls.length t).length c9 : Value).ownBlock) rfl rfl ?aP ?aK ?aF ?aO ?aB ?aS ?aL ?_; (case aP => exact Kd.M_row (Kd.R_lower (Kd.R_tight rfl HR.out) (by have h1 := HB.out.size; omega))); (case aK => exact fun k hk => ⟨by have h1 := HPB.out k hk.symm; omega, fun e => by have h1 := HPB.out k hk.symm; have h2 := HOL.out k e.symm; omega⟩); (case aF => exact fun k hk => by have h1 := HBI.out.size; omega); (case aO => exact HelpII.tII.M_mono (fun k hk => ⟨hk.1, fun e => by have h1 := HPB.out k e.symm; have h2 := hk.2; omega⟩) HSQ.out); (case aB => exact grew_trans HB.out HBI.out); (case aS => exact (grew_trans HB.out HBI.out).size); (case aL => (rw [List.length_map, List.length_take]; omega)); intro v6 w6 hO6 hB6 hg6 hat6; obtain ⟨A6, c6, e6⟩ := Kd.S_slice hO6; rw [show (((keys ls).take j).map (post b ls ls.length) ++ [post b ls ls.length t]).length = j + 1 from by rw [List.length_append, List.length_map, List.length_take, List.length_singleton]; omega] at e6; subst e6; have BK6 := zA (blk_grown (g := gs) BI.out hg6 (fun e => by have h1 := HO.out _ e.symm; have h2 := GSP.out; omega)); obtain ⟨⟨rc0, rf0⟩, ⟨rc1, rf1⟩, ⟨rc2, rf2⟩, ⟨rc3, rf3⟩⟩ := cells4 BK6.out; have HO6 := zA hO6; have HB6 := zA hB6; have HG6 := zA hg6; clear hO6 hB6 hg6 hat6 pc0 pf0 pc1 pf1 pc2 pf2 pc3 pf3)
       have hzq := HK.out.1
       have hzi := HBI.out.size
       go_roundg ((keys ls).length - (j + 1))
       case measure => omega
       case rel =>
        refine ⟨j + 1, A6, c6, zq3, zq3, by go_num, ⟨blk_put (cs := #[.int .i64 b, .slice A1 ls.length c1, .slice (some adk) (keys ls).length c2, .slice Ap j cp]) BK6.out 3 _ rfl⟩, ⟨?_⟩, ⟨fun k hk => (Kd.S_R HO6.out).1 k hk⟩, ⟨?_⟩, ⟨below_set HB6.out (Nat.le_trans HB2.out.size GS.out)⟩⟩
        ·rw [HTK.out]
         exact Ty.M_set (T := HelpII.tII) HO6.out (fun k hk e => by have h1 : wP.heap.size ≤ k := hk; have h2 := GSP.out; omega) _
        ·exact ⟨by have h1 := HG6.out.size; simp [World.setCell]; omega, fun k hk hne => (Below.heap_setCell w6 ⟨gs, 3, none⟩ _ k hne).trans ((HG6.out.block k zq3 (fun e => by have h1 := HO.out _ e.symm; omega)).trans ((HBI.out.block k zq3).trans (HK.out.2 k hk hne)))⟩
    ·have hljz : ¬ (j : Int) < ((keys ls).length : Int) := by omega
     obtain rfl : j = (keys ls).length := by omega
     have hS := HS.out
     rw [List.take_length] at hS
     have HS9 := zA hS
     have BR9 := zA (blk_kept BKgr.out HK.out NEGR.out)
     clear hS HS
     obtain ⟨⟨pc0, pf0⟩, ⟨pc1, pf1⟩, ⟨pc2, pf2⟩, ⟨pc3, pf3⟩⟩ := cells4 HG.out
     obtain ⟨⟨rc0, rf0⟩, ⟨rc1, rf1⟩, ⟨rc2, rf2⟩, ⟨rc3, rf3⟩⟩ := cells4 BR9.out
     have hz9 := HK.out.1
     go_wp2
     refine bodyPost_ret (results_cell_row rfl _ _ gr 50 #[.int .i64 b, .slice A1 ls.length c1, .slice A2 (keys ls).length c2, .slice Ap (keys ls).length cp] (0, 0) _ rfl (by (with_reducible repeat (first | refine blk_drewN ?_ _ | refine blk_drew ?_ | refine blk_alloc ?_ _)); refine blk_put (cs := #[.int .i64 b, .slice A1 ls.length c1, .slice A2 (keys ls).length c2, .slice none 0 0]) ?_ 3 _ rfl; (with_reducible repeat (first | refine blk_drewN ?_ _ | refine blk_drew ?_ | refine blk_alloc ?_ _)); refine blk_put (cs := #[.int .i64 b, .slice A1 ls.length c1, .slice none 0 0, .slice none 0 0]) ?_ 2 _ rfl; (with_reducible repeat (first | refine blk_drewN ?_ _ | refine blk_drew ?_ | refine blk_alloc ?_ _)); refine blk_put (cs := #[.int .i64 b, .slice none 0 0, .slice none 0 0, .slice none 0 0]) ?_ 1 _ rfl; (with_reducible repeat (first | refine blk_drewN ?_ _ | refine blk_drew ?_ | refine blk_alloc ?_ _)); refine blk_put (cs := #[.int .i64 0, .slice none 0 0, .slice none 0 0, .slice none 0 0]) ?_ 0 _ rfl; (with_reducible repeat (first | refine blk_drewN ?_ _ | refine blk_drew ?_ | refine blk_alloc ?_ _)); exact BR9.out) Try.underlying50 rfl zq12) rfl ?_
     refine ⟨A1, c1, A2, c2, Ap, cp, rfl, ?_, ?_, ?_, below_set (below_set (below_set (below_set (HB.out) GEgr.out) GEgr.out) GEgr.out) GEgr.out⟩
     ·exact HelpBB.tBB.M_mono (fun _ _ => trivial) ((Ty.M_set (T := HelpBB.tBB) (Ty.M_set (T := HelpBB.tBB) (Ty.M_set (T := HelpBB.tBB) (Ty.M_set (T := HelpBB.tBB) (Ty.M_kept (T := HelpBB.tBB) HC2.out HK.out (fun k hk e => by have h1 := hk.2; omega)) (fun k hk e => by have h1 := hk.1; omega) _) (fun k hk e => by have h1 := hk.1; omega) _) (fun k hk e => by have h1 := hk.1; omega) _) (fun k hk e => by have h1 := hk.1; omega) _))
     ·exact HelpI.tI.M_mono (fun _ _ => trivial) ((Ty.M_set (T := HelpI.tI) (Ty.M_set (T := HelpI.tI) (Ty.M_set (T := HelpI.tI) (Ty.M_set (T := HelpI.tI) (Ty.M_kept (T := HelpI.tI) HR4.out HK.out (fun k hk e => by have h1 := hk.1; omega)) (fun k hk e => by have h1 := hk.1; have h2 := GLgr.out; have h3 := GS.out; have h4 := HB12.out.size; omega) _) (fun k hk e => by have h1 := hk.1; have h2 := GLgr.out; have h3 := GS.out; have h4 := HB12.out.size; omega) _) (fun k hk e => by have h1 := hk.1; have h2 := GLgr.out; have h3 := GS.out; have h4 := HB12.out.size; omega) _) (fun k hk e => by have h1 := hk.1; have h2 := GLgr.out; have h3 := GS.out; have h4 := HB12.out.size; omega) _))
     ·exact HelpII.tII.M_mono (fun _ _ => trivial) ((Ty.M_set (T := HelpII.tII) (Ty.M_set (T := HelpII.tII) (Ty.M_set (T := HelpII.tII) (Ty.M_set (T := HelpII.tII) (HelpII.tII.M_mono (fun _ h => h) HS9.out) (fun k hk e => by have h1 : wP.heap.size ≤ k := hk; have h2 := GSP.out; have h3 := GLgr.out; have h4 := GS.out; have h5 := HB12.out.size; omega) _) (fun k hk e => by have h1 : wP.heap.size ≤ k := hk; have h2 := GSP.out; have h3 := GLgr.out; have h4 := GS.out; have h5 := HB12.out.size; omega) _) (fun k hk e => by have h1 : wP.heap.size ≤ k := hk; have h2 := GSP.out; have h3 := GLgr.out; have h4 := GS.out; have h5 := HB12.out.size; omega) _) (fun k hk e => by have h1 : wP.heap.size ≤ k := hk; have h2 := GSP.out; have h3 := GLgr.out; have h4 := GS.out; have h5 := HB12.out.size; omega) _))
end Go.Proofs.Ytmgmdnmfalepkaa.Bld

namespace Go.Proofs.Ytmgmdnmfalepkaa.L
open Go.RowKit Go.Proofs.YtmgmdnmfalepkaaW.PrintWords Go.Proofs.YtmgmdnmfalepkaaW.PrintLast Go.Proofs.YtmgmdnmfalepkaaW.PrintMore
attribute [local go_sem] max2_int min2_int max_two min_two max_three min_three max_four min_four
set_option linter.unusedVariables false
set_option linter.unusedSimpArgs false
def spec_l4read.l0 : Nat → List Int → Int → Int → Int → Int → Option (Int × Int)
 | 0, _, _, _, _, _ => none
 | k + 1, x0, x1, x6, x7, x8 => if x8 < 4 then (if (wrap64 (x1 + x8)) ≥ (x0.length : Int) then (some (0, (-1))) else (if 0 ≤ (wrap64 (x1 + x8)) then (if (wrap64 (x1 + x8)) < (x0.length : Int) then (if (wrap64 (rd x0 (wrap64 (x1 + x8)))) < 128 then (some (wrap64 (x6 + (wrap64 ((Int.tmod (wrap64 (rd x0 (wrap64 (x1 + x8)))) 128) * x7))), wrap64 ((wrap64 (x1 + x8)) + 1))) else (spec_l4read.l0 k x0 x1 (wrap64 (x6 + (wrap64 ((Int.tmod (wrap64 (rd x0 (wrap64 (x1 + x8)))) 128) * x7)))) (wrap64 (x7 * 128)) (wrap64 (x8 + 1)))) else (none)) else (none))) else (some (0, (-1)))
def spec_l4read.f (k : Nat) (l0 : List Int) (a1 : Int) : Option (Int × Int) := spec_l4read.l0 k l0 a1 0 1 0
theorem spec_l4read.mono_l : ∀ k, (∀ y0 y1 y2 y3 y4, LeO (spec_l4read.l0 k y0 y1 y2 y3 y4) (spec_l4read.l0 (k + 1) y0 y1 y2 y3 y4))
 | 0 => fun _ _ _ _ _ r h => by simp [spec_l4read.l0] at h
 | k + 1 => by
  have ih0 := spec_l4read.mono_l k
  ·intro y0 y1 y2 y3 y4
   unfold spec_l4read.l0
   repeat' first
   | (with_reducible exact ih0 _ _ _ _ _)
   | (with_reducible exact LeO.refl _)
   | (with_reducible exact LeO.none _)
   | (with_reducible refine LeO.ite ?_ ?_)
   | (with_reducible refine LeO.bind ?_ (fun _ => ?_))
   | exact ih0 _ _ _ _ _
   | exact LeO.none _
   | refine LeO.ite ?_ ?_
   | refine LeO.bind ?_ (fun _ => ?_)
theorem spec_l4read.mono : ∀ a0 a1 k, LeO (spec_l4read.f k a0 a1) (spec_l4read.f (k + 1) a0 a1) := by
 intro a0 a1 k
 have ih0 := spec_l4read.mono_l k
 unfold spec_l4read.f
 repeat' first
   | (with_reducible exact ih0 _ _ _ _ _)
   | (with_reducible exact LeO.refl _)
   | (with_reducible exact LeO.none _)
   | (with_reducible refine LeO.ite ?_ ?_)
   | (with_reducible refine LeO.bind ?_ (fun _ => ?_))
   | exact ih0 _ _ _ _ _
   | exact LeO.none _
   | refine LeO.ite ?_ ?_
   | refine LeO.bind ?_ (fun _ => ?_)
set_option maxHeartbeats 8000000 in
set_option maxRecDepth 100000 in
theorem spec_l4read.calls (k : Nat) (A0 : Option Addr) (c0 : Nat) (l0 : List Int) (a1 : Int) (r1 : Int) (r2 : Int) (w : World) (hr0 : Kd.C (Kd.int .u8) w A0 l0.length l0) (hc0 : l0.length ≤ c0) (h : spec_l4read.f k l0 a1 = some (r1, r2)) :
  Calls Try.prog 140 #[.slice A0 l0.length c0, .int .i64 a1] w fun e w' => e = .returned (.tuple #[.int .i64 r1, .int .i64 r2]) ∧ Drawn0 w w' := by
 have HR0 := zA hr0
 have HC0 := zA hc0
 clear hr0 hc0
 have H : (spec_l4read.l0 k l0 a1 0 1 0) = some (r1, r2) := h
 clear h
 have H' := zA H
 clear H
 go_enter Try.func140, Try.ntmps140
 go_wp2
 go_loopg [6, 7, 8] k (fun kq v6 v7 v8 w' => ∃ (x6_1 : Int) (x7_1 : Int) (x8_1 : Int), v6 = .int .i64 x6_1 ∧ v7 = .int .i64 x7_1 ∧ v8 = .int .i64 x8_1 ∧ Aside0 (spec_l4read.l0 kq l0 a1 x6_1 x7_1 x8_1 = some (r1, r2)) ∧ Aside0 (kq ≤ k) ∧ Drawn0 w w')
 case atStart => exact ⟨(0), (1), (0), zq6, zq6, zq6, H', ⟨Nat.le_refl _⟩, zq10⟩
 case round =>
  clear H'
  try clear c1
  try clear p2
  obtain ⟨x6_1, x7_1, x8_1, rfl, rfl, rfl, HA, HK1, ⟨m1, rfl⟩⟩ := hrel
  cases gk with
  | zero => exact absurd HA.out (by simp [spec_l4read.l0])
  | succ k1 =>
   have H := HA.out
   clear HA
   simp only [spec_l4read.l0] at H
   by_cases c3 : x8_1 < 4
   ·rw [if_pos c3] at H
    have c3b0 : decide (x8_1 < 4) = true := decide_eq_true c3
    clear c3
    by_cases c4 : (wrap64 (a1 + x8_1)) ≥ (l0.length : Int)
    ·rw [if_pos c4] at H
     have c4b0 : decide ((l0.length : Int) ≤ (wrap64 (a1 + x8_1))) = true := decide_eq_true c4
     clear c4
     simp only [Option.some.injEq, Prod.mk.injEq] at H
     obtain ⟨rfl, rfl⟩ := H
     go_wp2
     go_ret2
     exact ⟨zq6, zq10⟩
    ·rw [if_neg c4] at H
     have c4b0 : decide ((l0.length : Int) ≤ (wrap64 (a1 + x8_1))) = false := decide_eq_false c4
     clear c4
     obtain ⟨ji5, hji5⟩ : ∃ j_ : Int, (wrap64 (a1 + x8_1)) = j_ := ⟨_, rfl⟩
     replace H : (if 0 ≤ (ji5) then (if (ji5) < (l0.length : Int) then (if (wrap64 (rd l0 (ji5))) < 128 then (some (wrap64 (x6_1 + (wrap64 ((Int.tmod (wrap64 (rd l0 (ji5))) 128) * x7_1))), wrap64 ((ji5) + 1))) else (spec_l4read.l0 k1 l0 a1 (wrap64 (x6_1 + (wrap64 ((Int.tmod (wrap64 (rd l0 (ji5))) 128) * x7_1)))) (wrap64 (x7_1 * 128)) (wrap64 (x8_1 + 1)))) else (none)) else (none)) = some (r1, r2) := by first | (rw [hji5] at H; exact H) | (simp only [hji5] at H ⊢; exact H)
     (try rw [hji5] at c4b0)
     have hji5w : (IntKind.i64.wrap (a1 + x8_1)) = ji5 := (i64_w _).trans hji5
     by_cases c6 : 0 ≤ (ji5)
     ·rw [if_pos c6] at H
      have c6b0 : decide (0 ≤ (ji5)) = true := decide_eq_true c6
      clear c6
      by_cases c7 : (ji5) < (l0.length : Int)
      ·rw [if_pos c7] at H
       have c7b0 : decide ((ji5) < (l0.length : Int)) = true := decide_eq_true c7
       clear c7
       by_cases c8 : (wrap64 (rd l0 (ji5))) < 128
       ·rw [if_pos c8] at H
        have c8b0 : decide ((wrap64 (rd l0 (ji5))) < 128) = true := decide_eq_true c8
        clear c8
        simp only [Option.some.injEq, Prod.mk.injEq] at H
        obtain ⟨rfl, rfl⟩ := H
        have p446 : 0 ≤ ((ji5) : Int) := of_decide_eq_true zq4
        have q446 : (ji5) < (l0.length : Int) := of_decide_eq_true zq4
        obtain ⟨ad446, e446, hx446_0⟩ := Kd.at_int HR0.out (ji5) p446 q446
        cases e446
        replace p446 := eq_true p446
        replace q446 := eq_true q446
        go_wp2
        go_ret2
        exact ⟨zq53, zq10⟩
       ·rw [if_neg c8] at H
        have c8b0 : decide ((wrap64 (rd l0 (ji5))) < 128) = false := decide_eq_false c8
        clear c8
        have H' := zA H
        clear H
        have p446 : 0 ≤ ((ji5) : Int) := of_decide_eq_true zq4
        have q446 : (ji5) < (l0.length : Int) := of_decide_eq_true zq4
        obtain ⟨ad446, e446, hx446_0⟩ := Kd.at_int HR0.out (ji5) p446 q446
        cases e446
        replace p446 := eq_true p446
        replace q446 := eq_true q446
        go_wp2
        go_roundg k1
        case measure => have := HK1.out; omega
        case rel => exact ⟨(wrap64 (x6_1 + (wrap64 ((Int.tmod (wrap64 (rd l0 (ji5))) 128) * x7_1)))), (wrap64 (x7_1 * 128)), (wrap64 (x8_1 + 1)), zq53, zq6, zq6, H', ⟨zq39⟩, zq10⟩
      ·rw [if_neg c7] at H
       exact absurd H zq14
     ·rw [if_neg c6] at H
      exact absurd H zq14
   ·rw [if_neg c3] at H
    have c3b0 : decide (x8_1 < 4) = false := decide_eq_false c3
    clear c3
    simp only [Option.some.injEq, Prod.mk.injEq] at H
    obtain ⟨rfl, rfl⟩ := H
    go_wp2
    go_ret2
    exact ⟨zq6, zq10⟩
mutual
def spec_l4lines.j0 : Nat → List Int → Int → Int → Int → Bool → Option (Int × (List (List Int)) × Bool)
 | 0, _, _, _, _, _ => none
 | k + 1, x0, x5, x7, x8, x35 => if x35 = true then (some (0, ([] : List (List Int)), false)) else (spec_l4lines.l0 k x0 x5 x7 x8 ([] : List (List Int)) 0)
def spec_l4lines.l0 : Nat → List Int → Int → Int → Int → List (List Int) → Int → Option (Int × (List (List Int)) × Bool)
 | 0, _, _, _, _, _, _ => none
 | k + 1, x0, x5, x7, x8, x9, x10 => if x10 < x7 then ((spec_l4read.f k x0 x8).bind fun bt451 => (if bt451.2 < 0 then (some (0, ([] : List (List Int)), false)) else (if bt451.1 > (wrap64 ((x0.length : Int) - bt451.2)) then (some (0, ([] : List (List Int)), false)) else (if 0 ≤ bt451.2 then (if bt451.2 ≤ (wrap64 (bt451.2 + bt451.1)) then (if (wrap64 (bt451.2 + bt451.1)) ≤ (x0.length : Int) then (if ([] : List Int).length + ((x0.take ((wrap64 (bt451.2 + bt451.1)) : Int).toNat).drop (bt451.2 : Int).toNat).length < 140737488355328 then (if x9.length < 5864062014805 then (spec_l4lines.l0 k x0 x5 x7 (wrap64 (bt451.2 + bt451.1)) (x9 ++ [(([] : List Int) ++ ((x0.take ((wrap64 (bt451.2 + bt451.1)) : Int).toNat).drop (bt451.2 : Int).toNat))]) (wrap64 (x10 + 1))) else (none)) else (none)) else (none)) else (none)) else (none))))) else (some (x5, x9, true))
end
def spec_l4lines.f (k : Nat) (l0 : List Int) : Option (Int × (List (List Int)) × Bool) := if (l0.length : Int) < 2 then (some (0, ([] : List (List Int)), false)) else ((spec_l4read.f k l0 2).bind fun bt447 => (if bt447.2 < 0 then (some (0, ([] : List (List Int)), false)) else ((spec_l4read.f k l0 bt447.2).bind fun bt449 => (if bt449.2 < 0 then (spec_l4lines.j0 k l0 bt447.1 bt449.1 bt449.2 true) else (spec_l4lines.j0 k l0 bt447.1 bt449.1 bt449.2 (decide (bt449.1 > 1000)))))))
theorem spec_l4lines.mono_l : ∀ k, (∀ y0 y1 y2 y3 y4, LeO (spec_l4lines.j0 k y0 y1 y2 y3 y4) (spec_l4lines.j0 (k + 1) y0 y1 y2 y3 y4)) ∧ (∀ y0 y1 y2 y3 y4 y5, LeO (spec_l4lines.l0 k y0 y1 y2 y3 y4 y5) (spec_l4lines.l0 (k + 1) y0 y1 y2 y3 y4 y5))
 | 0 => ⟨fun _ _ _ _ _ r h => by simp [spec_l4lines.j0] at h, fun _ _ _ _ _ _ r h => by simp [spec_l4lines.l0] at h⟩
 | k + 1 => by
  obtain ⟨ih0, ih1⟩ := spec_l4lines.mono_l k
  refine ⟨?_, ?_⟩
  ·intro y0 y1 y2 y3 y4
   unfold spec_l4lines.j0
   repeat' first
   | (with_reducible exact ih0 _ _ _ _ _)
   | (with_reducible exact ih1 _ _ _ _ _ _)
   | (with_reducible exact spec_l4read.mono _ _ _)
   | (with_reducible exact LeO.refl _)
   | (with_reducible exact LeO.none _)
   | (with_reducible refine LeO.ite ?_ ?_)
   | (with_reducible refine LeO.bind ?_ (fun _ => ?_))
   | exact ih0 _ _ _ _ _
   | exact ih1 _ _ _ _ _ _
   | exact spec_l4read.mono _ _ _
   | exact LeO.none _
   | refine LeO.ite ?_ ?_
   | refine LeO.bind ?_ (fun _ => ?_)
  ·intro y0 y1 y2 y3 y4 y5
   unfold spec_l4lines.l0
   repeat' first
   | (with_reducible exact ih0 _ _ _ _ _)
   | (with_reducible exact ih1 _ _ _ _ _ _)
   | (with_reducible exact spec_l4read.mono _ _ _)
   | (with_reducible exact LeO.refl _)
   | (with_reducible exact LeO.none _)
   | (with_reducible refine LeO.ite ?_ ?_)
   | (with_reducible refine LeO.bind ?_ (fun _ => ?_))
   | exact ih0 _ _ _ _ _
   | exact ih1 _ _ _ _ _ _
   | exact spec_l4read.mono _ _ _
   | exact LeO.none _
   | refine LeO.ite ?_ ?_
   | refine LeO.bind ?_ (fun _ => ?_)
theorem spec_l4lines.mono : ∀ a0 k, LeO (spec_l4lines.f k a0) (spec_l4lines.f (k + 1) a0) := by
 intro a0 k
 obtain ⟨ih0, ih1⟩ := spec_l4lines.mono_l k
 unfold spec_l4lines.f
 repeat' first
   | (with_reducible exact ih0 _ _ _ _ _)
   | (with_reducible exact ih1 _ _ _ _ _ _)
   | (with_reducible exact spec_l4read.mono _ _ _)
   | (with_reducible exact LeO.refl _)
   | (with_reducible exact LeO.none _)
   | (with_reducible refine LeO.ite ?_ ?_)
   | (with_reducible refine LeO.bind ?_ (fun _ => ?_))
   | exact ih0 _ _ _ _ _
   | exact ih1 _ _ _ _ _ _
   | exact spec_l4read.mono _ _ _
   | exact LeO.none _
   | refine LeO.ite ?_ ?_
   | refine LeO.bind ?_ (fun _ => ?_)
set_option maxHeartbeats 8000000 in
set_option maxRecDepth 100000 in
theorem spec_l4lines.calls (k : Nat) (A0 : Option Addr) (c0 : Nat) (l0 : List Int) (r1 : Int) (r2 : List (List Int)) (r3 : Bool) (w : World) (hr0 : Kd.C (Kd.int .u8) w A0 l0.length l0) (hc0 : l0.length ≤ c0) (h : spec_l4lines.f k l0 = some (r1, r2, r3)) :
  Calls Try.prog 100 #[.slice A0 l0.length c0] w fun e w' => ∃ v1_ : Value, e = .returned (.tuple #[.int .i64 r1, v1_, .bool r3]) ∧ Kd.S (Kd.slice 5 (Kd.int .u8)) 33 w' w.heap.size (fun _ => True) v1_ r2 ∧ Below w.heap.size w w' := by
 have HR0 := zA hr0
 have HC0 := zA hc0
 clear hr0 hc0
 have HB := zA (Below.refl w.heap.size w)
 have H : (if (l0.length : Int) < 2 then (some (0, ([] : List (List Int)), false)) else ((spec_l4read.f k l0 2).bind fun bt447 => (if bt447.2 < 0 then (some (0, ([] : List (List Int)), false)) else ((spec_l4read.f k l0 bt447.2).bind fun bt449 => (if bt449.2 < 0 then (spec_l4lines.j0 k l0 bt447.1 bt449.1 bt449.2 true) else (spec_l4lines.j0 k l0 bt447.1 bt449.1 bt449.2 (decide (bt449.1 > 1000)))))))) = some (r1, r2, r3) := h
 clear h
 by_cases c2 : (l0.length : Int) < 2
 ·rw [if_pos c2] at H
  have c2b0 : decide ((l0.length : Int) < 2) = true := decide_eq_true c2
  have c2b1 : decide (l0.length < 2) = true := decide_eq_true zq3
  clear c2
  simp only [Option.some.injEq, Prod.mk.injEq] at H
  obtain ⟨rfl, rfl, rfl⟩ := H
  go_enter Try.func100, Try.ntmps100
  go_wp2
  go_ret3
  exact ⟨_, zq9, zq16, zq0⟩
 ·rw [if_neg c2] at H
  have c2b0 : decide ((l0.length : Int) < 2) = false := decide_eq_false c2
  have c2b1 : decide (l0.length < 2) = false := decide_eq_false zq3
  clear c2
  replace H := Option.bind_eq_some_iff.mp H
  obtain ⟨⟨t447, t448⟩, A30, H⟩ := H
  replace H : (if t448 < 0 then (some (0, ([] : List (List Int)), false)) else ((spec_l4read.f k l0 t448).bind fun bt449 => (if bt449.2 < 0 then (spec_l4lines.j0 k l0 t447 bt449.1 bt449.2 true) else (spec_l4lines.j0 k l0 t447 bt449.1 bt449.2 (decide (bt449.1 > 1000)))))) = some (r1, r2, r3) := H
  have A3 := zA A30
  clear A30
  by_cases c4 : t448 < 0
  ·rw [if_pos c4] at H
   have c4b0 : decide (t448 < 0) = true := decide_eq_true c4
   clear c4
   simp only [Option.some.injEq, Prod.mk.injEq] at H
   obtain ⟨rfl, rfl, rfl⟩ := H
   go_enter Try.func100, Try.ntmps100
   go_wp2_with (first | ((with_reducible refine gate_callee (f := 140) rfl ?_); refine goesL_ (some 19) rfl rfl Try.func140 zq12 rfl #[.slice A0 l0.length c0, .int .i64 2] rfl zq2 ?_; (with_reducible refine (spec_l4read.calls k _ _ l0 2 t447 t448 _ ?side1 ?side2 A3.out).mono ?_); (case side1 => repeat (first | exact HR0.out | (with_reducible refine Kd.C_alloc ?_ _) | (with_reducible refine Kd.C_drewN ?_ _) | (with_reducible refine Kd.C_drew ?_))); (case side2 => exact HC0.out); rintro e w' ⟨rfl, ⟨nd, rfl⟩⟩; refine ⟨_, rfl, ?_⟩))
   go_ret3
   exact ⟨_, zq9, zq16, zq0⟩
  ·rw [if_neg c4] at H
   have c4b0 : decide (t448 < 0) = false := decide_eq_false c4
   clear c4
   replace H := Option.bind_eq_some_iff.mp H
   obtain ⟨⟨t449, t450⟩, A50, H⟩ := H
   replace H : (if t450 < 0 then (spec_l4lines.j0 k l0 t447 t449 t450 true) else (spec_l4lines.j0 k l0 t447 t449 t450 (decide (t449 > 1000)))) = some (r1, r2, r3) := H
   have A5 := zA A50
   clear A50
   have HC6 := zA H
   clear H
   go_enter Try.func100, Try.ntmps100
   go_upto_region 7 with (first | ((with_reducible refine gate_callee (f := 140) rfl ?_); refine goesL_ (some 19) rfl rfl Try.func140 zq12 rfl #[.slice A0 l0.length c0, .int .i64 2] rfl zq2 ?_; (with_reducible refine (spec_l4read.calls k _ _ l0 2 t447 t448 _ ?side1 ?side2 A3.out).mono ?_); (case side1 => repeat (first | exact HR0.out | (with_reducible refine Kd.C_alloc ?_ _) | (with_reducible refine Kd.C_drewN ?_ _) | (with_reducible refine Kd.C_drew ?_))); (case side2 => exact HC0.out); rintro e w' ⟨rfl, ⟨nd, rfl⟩⟩; refine ⟨_, rfl, ?_⟩) | ((with_reducible refine gate_callee (f := 140) rfl ?_); refine goesL_ (some 27) rfl rfl Try.func140 zq12 rfl #[.slice A0 l0.length c0, .int .i64 t448] rfl zq2 ?_; (with_reducible refine (spec_l4read.calls k _ _ l0 t448 t449 t450 _ ?side1 ?side2 A5.out).mono ?_); (case side1 => repeat (first | exact HR0.out | (with_reducible refine Kd.C_alloc ?_ _) | (with_reducible refine Kd.C_drewN ?_ _) | (with_reducible refine Kd.C_drew ?_))); (case side2 => exact HC0.out); rintro e w' ⟨rfl, ⟨nd, rfl⟩⟩; refine ⟨_, rfl, ?_⟩))
   (try simp only [Act.put, List.setIfInBounds_toArray, List.set_cons_zero, List.set_cons_succ])
   go_cut [35] (fun v35 wc => ∃ (kq : Nat) (x35_5 : Bool), v35 = .bool x35_5 ∧ Aside0 (spec_l4lines.j0 kq l0 t447 t449 t450 x35_5 = some (r1, r2, r3)) ∧ Aside0 (kq ≤ k) ∧ Aside0 (Below w.heap.size w wc))
   case first =>
    have H := HC6.out
    clear HC6
    by_cases c7 : t450 < 0
    ·rw [if_pos c7] at H
     have c7b0 : decide (t450 < 0) = true := decide_eq_true c7
     clear c7
     (first | rw [c7b0] | (simp only [i64_w, i32_w]; rw [c7b0]) | skip)
     have H' := zA H
     clear H
     go_wp2
     go_meet
     case rel => exact ⟨_, (true), zq6, H', ⟨by first | omega | exact Nat.le_refl _⟩, ⟨zq0⟩⟩
    ·rw [if_neg c7] at H
     have c7b0 : decide (t450 < 0) = false := decide_eq_false c7
     clear c7
     (first | rw [c7b0] | (simp only [i64_w, i32_w]; rw [c7b0]) | skip)
     have H' := zA H
     clear H
     go_wp2
     go_meet
     case rel => exact ⟨_, (decide (t449 > 1000)), zq6, H', ⟨by first | omega | exact Nat.le_refl _⟩, ⟨zq0⟩⟩
   case rest =>
    clear HC6
    try clear c1
    try clear c2
    try clear c2b0
    try clear c2b1
    try clear p2
    try clear c4
    try clear c4b0
    try clear c7
    try clear c7b0
    obtain ⟨kq, x35_5, rfl, HA, HJ5, HB⟩ := hcut
    cases kq with
    | zero => exact absurd HA.out (by simp [spec_l4lines.j0])
    | succ kj5 =>
     have H := HA.out
     clear HA
     simp only [spec_l4lines.j0] at H
     by_cases c8 : x35_5 = true
     ·subst c8
      have H1 : (some (0, ([] : List (List Int)), false)) = some (r1, r2, r3) := by rw [if_pos rfl] at H; exact H
      clear H
      have H := H1
      clear H1
      simp only [Option.some.injEq, Prod.mk.injEq] at H
      obtain ⟨rfl, rfl, rfl⟩ := H
      go_wp2
      go_ret3
      exact ⟨_, zq9, zq16, zq0⟩
     ·replace c8 := Bool.eq_false_iff.mpr c8
      subst c8
      have H1 : (spec_l4lines.l0 kj5 l0 t447 t449 t450 ([] : List (List Int)) 0) = some (r1, r2, r3) := by rw [if_neg (show ¬ (false = true) by decide)] at H; exact H
      clear H
      have H := H1
      clear H1
      have H' := zA H
      clear H
      go_wp2
      go_loopg [8, 9, 10] kj5 (fun kq v8 v9 v10 w' => ∃ (x8_2 : Int) (x9_2 : List (List Int)) (x10_2 : Int), v8 = .int .i64 x8_2 ∧ v10 = .int .i64 x10_2 ∧ Aside0 (spec_l4lines.l0 kq l0 t447 t449 x8_2 x9_2 x10_2 = some (r1, r2, r3)) ∧ Aside0 (kq ≤ kj5) ∧ Aside0 (Kd.S (Kd.slice 5 (Kd.int .u8)) 33 w' w.heap.size (fun _ => True) v9 x9_2) ∧ Aside0 (Below w.heap.size w w'))
      case atStart => exact ⟨(t450), (([] : List (List Int))), (0), zq6, zq6, H', ⟨Nat.le_refl _⟩, ⟨zq16⟩, ⟨zq0⟩⟩
      case round =>
       clear H'
       try clear c1
       try clear c2
       try clear c2b0
       try clear c2b1
       try clear p2
       try clear c4
       try clear c4b0
       try clear c7
       try clear c7b0
       try clear c8
       try clear p2
       obtain ⟨x8_2, x9_2, x10_2, rfl, rfl, HA, HK2, HO_9, HB⟩ := hrel
       cases gk with
       | zero => exact absurd HA.out (by simp [spec_l4lines.l0])
       | succ k2 =>
        have H := HA.out
        clear HA
        simp only [spec_l4lines.l0] at H
        by_cases c9 : x10_2 < t449
        ·rw [if_pos c9] at H
         have c9b0 : decide (x10_2 < t449) = true := decide_eq_true c9
         clear c9
         replace H := Option.bind_eq_some_iff.mp H
         obtain ⟨⟨t451, t452⟩, A100, H⟩ := H
         replace H : (if t452 < 0 then (some (0, ([] : List (List Int)), false)) else (if t451 > (wrap64 ((l0.length : Int) - t452)) then (some (0, ([] : List (List Int)), false)) else (if 0 ≤ t452 then (if t452 ≤ (wrap64 (t452 + t451)) then (if (wrap64 (t452 + t451)) ≤ (l0.length : Int) then (if ([] : List Int).length + ((l0.take ((wrap64 (t452 + t451)) : Int).toNat).drop (t452 : Int).toNat).length < 140737488355328 then (if x9_2.length < 5864062014805 then (spec_l4lines.l0 k2 l0 t447 t449 (wrap64 (t452 + t451)) (x9_2 ++ [(([] : List Int) ++ ((l0.take ((wrap64 (t452 + t451)) : Int).toNat).drop (t452 : Int).toNat))]) (wrap64 (x10_2 + 1))) else (none)) else (none)) else (none)) else (none)) else (none)))) = some (r1, r2, r3) := H
         have A10 := zA A100
         clear A100
         by_cases c11 : t452 < 0
         ·rw [if_pos c11] at H
          have c11b0 : decide (t452 < 0) = true := decide_eq_true c11
          clear c11
          simp only [Option.some.injEq, Prod.mk.injEq] at H
          obtain ⟨rfl, rfl, rfl⟩ := H
          go_wp2_with (first | ((with_reducible refine gate_callee (f := 140) rfl ?_); refine goesL_ (some 44) rfl rfl Try.func140 zq12 rfl #[.slice A0 l0.length c0, .int .i64 x8_2] rfl zq2 ?_; (with_reducible refine (spec_l4read.calls k2 _ _ l0 x8_2 t451 t452 _ ?side1 ?side2 A10.out).mono ?_); (case side1 => repeat (first | exact (Kd.C_below HR0.out HB.out) | (with_reducible refine Kd.C_alloc ?_ _) | (with_reducible refine Kd.C_drewN ?_ _) | (with_reducible refine Kd.C_drew ?_))); (case side2 => exact HC0.out); rintro e w' ⟨rfl, ⟨nd, rfl⟩⟩; refine ⟨_, rfl, ?_⟩))
          go_ret3
          exact ⟨_, zq9, zq16, zq0⟩
         ·rw [if_neg c11] at H
          have c11b0 : decide (t452 < 0) = false := decide_eq_false c11
          clear c11
          by_cases c12 : t451 > (wrap64 ((l0.length : Int) - t452))
          ·rw [if_pos c12] at H
           have c12b0 : decide ((wrap64 ((l0.length : Int) - t452)) < t451) = true := decide_eq_true c12
           clear c12
           simp only [Option.some.injEq, Prod.mk.injEq] at H
           obtain ⟨rfl, rfl, rfl⟩ := H
           go_wp2_with (first | ((with_reducible refine gate_callee (f := 140) rfl ?_); refine goesL_ (some 44) rfl rfl Try.func140 zq12 rfl #[.slice A0 l0.length c0, .int .i64 x8_2] rfl zq2 ?_; (with_reducible refine (spec_l4read.calls k2 _ _ l0 x8_2 t451 t452 _ ?side1 ?side2 A10.out).mono ?_); (case side1 => repeat (first | exact (Kd.C_below HR0.out HB.out) | (with_reducible refine Kd.C_alloc ?_ _) | (with_reducible refine Kd.C_drewN ?_ _) | (with_reducible refine Kd.C_drew ?_))); (case side2 => exact HC0.out); rintro e w' ⟨rfl, ⟨nd, rfl⟩⟩; refine ⟨_, rfl, ?_⟩))
           go_ret3
           exact ⟨_, zq9, zq16, zq0⟩
          ·rw [if_neg c12] at H
           have c12b0 : decide ((wrap64 ((l0.length : Int) - t452)) < t451) = false := decide_eq_false c12
           clear c12
           by_cases c13 : 0 ≤ t452
           ·rw [if_pos c13] at H
            have c13b0 := eq_true c13
            have c13b1 : decide (0 ≤ t452) = true := decide_eq_true c13
            clear c13
            by_cases c14 : t452 ≤ (wrap64 (t452 + t451))
            ·rw [if_pos c14] at H
             have c14b0 := eq_true c14
             have c14b1 : decide (t452 ≤ (wrap64 (t452 + t451))) = true := decide_eq_true c14
             by_cases c15 : (wrap64 (t452 + t451)) ≤ (l0.length : Int)
             ·rw [if_pos c15] at H
              have c15b0 := eq_true c15
              have c15b1 : decide ((wrap64 (t452 + t451)) ≤ (l0.length : Int)) = true := decide_eq_true c15
              by_cases c16 : ([] : List Int).length + ((l0.take ((wrap64 (t452 + t451)) : Int).toNat).drop (t452 : Int).toNat).length < 140737488355328
              ·rw [if_pos c16] at H
               have LMc16 := zA c16
               clear c16
               obtain ⟨y454, hy454⟩ : ∃ y_ : List Int, y_ = (([] : List Int) ++ ((l0.take ((wrap64 (t452 + t451)) : Int).toNat).drop (t452 : Int).toNat)) := ⟨_, rfl⟩
               replace H : (if x9_2.length < 5864062014805 then (spec_l4lines.l0 k2 l0 t447 t449 (wrap64 (t452 + t451)) (x9_2 ++ [y454]) (wrap64 (x10_2 + 1))) else (none)) = some (r1, r2, r3) := by first | (rw [hy454]; with_reducible exact H) | (have H2_ := (Option.bind_some _ _).symm.trans H; rw [hy454]; with_reducible exact H2_) | (have H2_ := (Option.bind_some _ _).symm.trans H; with_reducible exact H2_) | with_reducible exact H | (rw [hy454]; exact H) | exact H
               have Ny454 := zA hy454
               clear hy454
               by_cases c17 : x9_2.length < 5864062014805
               ·rw [if_pos c17] at H
                have LMc17 := zA c17
                clear c17
                obtain ⟨y457, hy457⟩ : ∃ y_ : List (List Int), y_ = (x9_2 ++ [y454]) := ⟨_, rfl⟩
                replace H : (spec_l4lines.l0 k2 l0 t447 t449 (wrap64 (t452 + t451)) y457 (wrap64 (x10_2 + 1))) = some (r1, r2, r3) := by first | (rw [hy457]; with_reducible exact H) | (have H2_ := (Option.bind_some _ _).symm.trans H; rw [hy457]; with_reducible exact H2_) | (have H2_ := (Option.bind_some _ _).symm.trans H; with_reducible exact H2_) | with_reducible exact H | (rw [hy457]; exact H) | exact H
                have Ny457 := zA hy457
                clear hy457
                have H' := zA H
                clear H
                go_wp2_with (first | ((with_reducible refine gate_callee (f := 140) rfl ?_); refine goesL_ (some 44) rfl rfl Try.func140 zq12 rfl #[.slice A0 l0.length c0, .int .i64 x8_2] rfl zq2 ?_; (with_reducible refine (spec_l4read.calls k2 _ _ l0 x8_2 t451 t452 _ ?side1 ?side2 A10.out).mono ?_); (case side1 => repeat (first | exact (Kd.C_below HR0.out HB.out) | (with_reducible refine Kd.C_alloc ?_ _) | (with_reducible refine Kd.C_drewN ?_ _) | (with_reducible refine Kd.C_drew ?_))); (case side2 => exact HC0.out); rintro e w' ⟨rfl, ⟨nd, rfl⟩⟩; refine ⟨_, rfl, ?_⟩; obtain ⟨i018, hi018, _, hsz18, _⟩ := info_parts info5; obtain ⟨A18, hcut18, hA18, hC18⟩ := print_mid_of (P := Try.prog) (Value.int .u8) 0 33 5 .i64 .i64 Try.underlying33 hi018 hsz18 A0 c0 l0 t452 (wrap64 (t452 + t451)) (of_decide_eq_true zq4) (by first | omega | exact of_decide_eq_true zq4) (of_decide_eq_true zq4) HC0.out; have HR453 := zA (Kd.C_of_reads (h1 := fun _ => rfl) (hA18 _ (Kd.reads_of_C HR0.out))); have HC453 := zA hC18; clear hA18 hC18 hi018 hsz18) | ((with_reducible refine gate_builtin (b := .append) (xs := #[.tmp 57, .tmp 63]) rfl ?_); (try (refine gate_guard (by rfl) ?_; dsimp only)); at_builtin; refine Kd.R_append_rows (Kd.int .u8) (w0 := w) w.heap.size rfl (.tmp 57) (.tmp 63) 33 5 (.int .u8 0) 1 rfl Try.underlying33 info5 rfl zq13 zq3 (.slice none 0 0) ([] : List Int) ((l0.take ((wrap64 (t452 + t451)) : Int).toNat).drop (t452 : Int).toNat) _ _ _ (fun _ => True) (fun _ => False) rfl rfl ?aO ?aR (fun _ _ h => h) (fun _ h => h.elim) ?aF ?aB ?aS ?aL ?_; (case aR => first | (rw [← show ((l0.take ((wrap64 (t452 + t451)) : Int).toNat).drop (t452 : Int).toNat).length = ((wrap64 (t452 + t451)).toNat - t452.toNat) from zq43]; repeat (first | exact (Kd.C_below HR453.out zq0) | (with_reducible refine Kd.C_alloc ?_ _) | (with_reducible refine Kd.C_drewN ?_ _) | (with_reducible refine Kd.C_drew ?_))) | (repeat (first | exact (Kd.C_below HR453.out zq0) | (with_reducible refine Kd.C_alloc ?_ _) | (with_reducible refine Kd.C_drewN ?_ _) | (with_reducible refine Kd.C_drew ?_)))); (case aB => exact zq0); (case aF => exact (fun _ _ => trivial)); (case aO => exact ((Kd.R_nil _ _ _ _ (fun _ => True)))); (case aS => exact (below_size zq0)); (case aL => have := LMc16.out; have hlx_ := (show ((l0.take ((wrap64 (t452 + t451)) : Int).toNat).drop (t452 : Int).toNat).length = ((wrap64 (t452 + t451)).toNat - t452.toNat) from zq43); omega); intro v455 w19 ho hb hg hat; rw [← Ny454.out] at ho; have n0_ := zA (Kd.S_after (Kd.S_apart_nil (by (with_reducible repeat (first | apply Kd.S_alloc | apply Kd.S_drewN | apply Kd.S_drew)); exact HO_9.out)) hg hat); have n1_ := zA (hb); have n2_ := zA (ho); clear HO_9; clear HB; have HO_9 := n0_; have HB := n1_; have HO456 := n2_; clear n0_ n1_ n2_; clear ho hb hg hat; obtain ⟨Ao21, co21, eo21⟩ := Kd.R_slice HO456.out; subst eo21) | ((with_reducible refine gate_builtin (b := .append) (xs := #[.tmp 65, .tmp 67]) rfl ?_); (try (refine gate_guard (by rfl) ?_; dsimp only)); at_builtin; refine Kd.S_append (Kd.slice 5 (Kd.int .u8)) (w0 := w) w.heap.size rfl (.tmp 65) (.tmp 67) 41 33 (.slice none 0 0) 24 rfl Try.underlying41 info33 rfl zq13 zq3 u9 x9_2 y454 [.slice Ao21 y454.length co21] (fun _ => True) (fun k_ => some k_ = (.slice Ao21 y454.length co21 : Value).ownBlock) rfl rfl ?aP (fun k_ hk_ => ((Kd.R_mono (ok' := fun k_ => ((fun _ => True)) k_ ∧ some k_ ≠ (u9 : Value).ownBlock) (Kd.R_apart' (HO456.out) (Kd.S_typed HO_9.out) zq13) (fun k_ hk => ⟨trivial, hk.2⟩))).1 k_ hk_.symm) ?aF ?aO ?aB ?aS ?aL ?_; (case aP => exact Kd.M_row (Kd.R_mono (Kd.R_tight rfl (Kd.R_mono (ok' := fun k_ => ((fun _ => True)) k_ ∧ some k_ ≠ (u9 : Value).ownBlock) (Kd.R_apart' (HO456.out) (Kd.S_typed HO_9.out) zq13) (fun k_ hk => ⟨trivial, hk.2⟩))) (fun _ h_ => h_))); (case aB => exact zq0); (case aF => exact (fun _ _ => trivial)); (case aO => exact (by (with_reducible repeat (first | apply Kd.S_alloc | apply Kd.S_drewN | apply Kd.S_drew)); exact Kd.S_mono HO_9.out (fun k_ hk => ⟨trivial, fun e_ => hk.2 e_⟩))); (case aS => exact (below_size zq0)); (case aL => have := LMc17.out; omega); intro v458 w20 ho hb hg hat; rw [← Ny457.out] at ho; have n0_ := zA (hb); have n1_ := zA (ho); clear HB; clear HO_9; clear HO456; have HB := n0_; have HO459 := n1_; clear n0_ n1_; clear ho hb hg hat))
                go_roundg k2
                case measure => have := HJ5.out; have := HK2.out; omega
                case rel => exact ⟨(wrap64 (t452 + t451)), (y457), (wrap64 (x10_2 + 1)), zq6, zq6, H', ⟨by have := HJ5.out; have := HK2.out; omega⟩, ⟨by (with_reducible repeat (first | apply Kd.S_alloc | apply Kd.S_drewN | apply Kd.S_drew)); exact HO459.out⟩, ⟨zq0⟩⟩
               ·rw [if_neg c17] at H
                exact absurd H zq14
              ·rw [if_neg c16] at H
               exact absurd H zq14
             ·rw [if_neg c15] at H
              exact absurd H zq14
            ·rw [if_neg c14] at H
             exact absurd H zq14
           ·rw [if_neg c13] at H
            exact absurd H zq14
        ·rw [if_neg c9] at H
         have c9b0 : decide (x10_2 < t449) = false := decide_eq_false c9
         clear c9
         simp only [Option.some.injEq, Prod.mk.injEq] at H
         obtain ⟨rfl, rfl, rfl⟩ := H
         go_wp2
         go_ret3
         exact ⟨_, zq9, by (with_reducible repeat (first | apply Kd.S_alloc | apply Kd.S_drewN | apply Kd.S_drew)); exact HO_9.out, zq0⟩
def spec_DecodeSegment.j0 : Nat → List Int → Int → List (List Int) → Bool → Option (Int × (List (List Int)) × List Int × (List (List Int)) × Int)
 | 0, _, _, _, _ => none
 | k + 1, x0, x4, x5, x21 => if x21 = true then (some (0, ([] : List (List Int)), ([] : List Int), ([] : List (List Int)), 5)) else ((spec_l4build.f k x4 x5).bind fun bt467 => ((spec_l4encode.f k bt467.1 bt467.2.1 bt467.2.2.1 bt467.2.2.2).bind fun t478 => ((spec_l4sameBytes.f t478 x0).bind fun t481 => (if t481 = true then (some (bt467.1, bt467.2.1, bt467.2.2.1, bt467.2.2.2, 0)) else (some (0, ([] : List (List Int)), ([] : List Int), ([] : List (List Int)), 5))))))
def spec_DecodeSegment.f (k : Nat) (l0 : List Int) : Option (Int × (List (List Int)) × List Int × (List (List Int)) × Int) := (spec_l4lines.f k l0).bind fun bt461 => (if bt461.2.2 = true then ((spec_l4fits.f k bt461.1 bt461.2.1).bind fun t466 => (spec_DecodeSegment.j0 k l0 bt461.1 bt461.2.1 (!t466))) else (spec_DecodeSegment.j0 k l0 bt461.1 bt461.2.1 true))
theorem spec_DecodeSegment.mono_l : ∀ k, (∀ y0 y1 y2 y3, LeO (spec_DecodeSegment.j0 k y0 y1 y2 y3) (spec_DecodeSegment.j0 (k + 1) y0 y1 y2 y3))
 | 0 => fun _ _ _ _ r h => by simp [spec_DecodeSegment.j0] at h
 | k + 1 => by
  have ih0 := spec_DecodeSegment.mono_l k
  ·intro y0 y1 y2 y3
   unfold spec_DecodeSegment.j0
   repeat' first
   | (with_reducible exact ih0 _ _ _ _)
   | (with_reducible exact spec_l4build.mono _ _ _)
   | (with_reducible exact spec_l4encode.mono _ _ _ _ _)
   | (with_reducible exact spec_l4fits.mono _ _ _)
   | (with_reducible exact spec_l4lines.mono _ _)
   | (with_reducible exact LeO.refl _)
   | (with_reducible exact LeO.none _)
   | (with_reducible refine LeO.ite ?_ ?_)
   | (with_reducible refine LeO.bind ?_ (fun _ => ?_))
   | exact ih0 _ _ _ _
   | exact spec_l4build.mono _ _ _
   | exact spec_l4encode.mono _ _ _ _ _
   | exact spec_l4fits.mono _ _ _
   | exact spec_l4lines.mono _ _
   | exact LeO.none _
   | refine LeO.ite ?_ ?_
   | refine LeO.bind ?_ (fun _ => ?_)
theorem spec_DecodeSegment.mono : ∀ a0 k, LeO (spec_DecodeSegment.f k a0) (spec_DecodeSegment.f (k + 1) a0) := by
 intro a0 k
 have ih0 := spec_DecodeSegment.mono_l k
 unfold spec_DecodeSegment.f
 repeat' first
   | (with_reducible exact ih0 _ _ _ _)
   | (with_reducible exact spec_l4build.mono _ _ _)
   | (with_reducible exact spec_l4encode.mono _ _ _ _ _)
   | (with_reducible exact spec_l4fits.mono _ _ _)
   | (with_reducible exact spec_l4lines.mono _ _)
   | (with_reducible exact LeO.refl _)
   | (with_reducible exact LeO.none _)
   | (with_reducible refine LeO.ite ?_ ?_)
   | (with_reducible refine LeO.bind ?_ (fun _ => ?_))
   | exact ih0 _ _ _ _
   | exact spec_l4build.mono _ _ _
   | exact spec_l4encode.mono _ _ _ _ _
   | exact spec_l4fits.mono _ _ _
   | exact spec_l4lines.mono _ _
   | exact LeO.none _
   | refine LeO.ite ?_ ?_
   | refine LeO.bind ?_ (fun _ => ?_)
end Go.Proofs.Ytmgmdnmfalepkaa.L

namespace Go.Proofs.Ytmgmdnmfalepkaa.PDec
open Go.RowKit Go.Proofs.YtmgmdnmfalepkaaW.PrintWords Go.Proofs.Ytmgmdnmfalepkaa.PKit Go.Proofs.Ytmgmdnmfalepkaa.PSeg Go.Proofs.Ytmgmdnmfalepkaa.PEnc Go.Proofs.Ytmgmdnmfalepkaa.L Go.Proofs.Ytmgmdnmfalepkaa.HelpBB
set_option linter.unusedVariables false
def readV (n : Nat) (o : Option (Nat × List Int)) : Int × Int := match o with
 | some q => ((q.1 : Int), ((n - q.2.length : Nat) : Int))
 | none => (0, -1)
theorem getD_drop (b : List Int) (i : Nat) (h : i < b.length) : b.drop i = b.getD i 0 :: b.drop (i + 1) := by
 rw [List.drop_eq_getElem_cons h]
 simp [List.getD, List.getElem?_eq_getElem h]
theorem read_ev (b : List Int) (i : Nat) (hb : ∀ x ∈ b, 0 ≤ x ∧ x ≤ 255) (hl : b.length ≤ 1048576) (hi : i ≤ b.length) : Ev (fun k => spec_l4read.f k b (i : Int)) (readV b.length (rdNum 4 (b.drop i))) := by
 have key : ∀ (d j v p : Nat), j + d = 4 → ((j = 0 ∧ p = 1) ∨ (j = 1 ∧ p = 128) ∨ (j = 2 ∧ p = 16384) ∨ (j = 3 ∧ p = 2097152) ∨ j = 4) → v < p → Ev (fun k => spec_l4read.l0 k b (i : Int) (v : Int) (p : Int) (j : Int)) (readV b.length ((rdNum d (b.drop (i + j))).map fun q => (v + p * q.1, q.2))) := by
  intro d
  induction d with
  | zero =>
   intro j v p hj hp hv
   refine Ev.step (f := fun _ => some ((0 : Int), (-1 : Int))) (fun k => ?_) (Ev.now _)
   simp only [spec_l4read.l0]
   rw [if_neg zq3]
  | succ d ih =>
   intro j v p hj hp hv
   have HW := zA (show wrap64 ((i : Int) + (j : Int)) = ((i + j : Nat) : Int) from by rw [wrap_in zq3]; omega)
   have hpb : p ≤ 2097152 := by omega
   have hp1 : ((j + 1 = 0 ∧ p * 128 = 1) ∨ (j + 1 = 1 ∧ p * 128 = 128) ∨ (j + 1 = 2 ∧ p * 128 = 16384) ∨ (j + 1 = 3 ∧ p * 128 = 2097152) ∨ j + 1 = 4) := by omega
   have HP1 := zA hp1
   clear hp1
   clear hp
   by_cases hlt : i + j < b.length
   ·rw [getD_drop b (i + j) hlt]
    obtain ⟨c0, c1⟩ := hb (b.getD (i + j) 0) (by rw [getD_get b (i + j) hlt]; exact List.getElem_mem hlt)
    have hrd : rd b ((i + j : Nat) : Int) = b.getD (i + j) 0 := rfl
    generalize b.getD (i + j) 0 = c at c0 c1 hrd ⊢
    have HC := zA (show wrap64 c = c from wrap_in zq3)
    obtain ⟨n, rfl⟩ : ∃ n : Nat, c = (n : Int) := ⟨c.toNat, zq3⟩
    have hm : n % 128 * p ≤ 127 * p := Nat.mul_le_mul_right _ zq3
    have hm' : Int.tmod (n : Int) 128 * (p : Int) = ((n % 128 * p : Nat) : Int) := by
     have : Int.tmod (n : Int) 128 = ((n % 128 : Nat) : Int) := rfl
     rw [this, ← Int.natCast_mul]
    have HV := zA (show wrap64 ((v : Int) + wrap64 (Int.tmod (n : Int) 128 * (p : Int))) = ((v + n % 128 * p : Nat) : Int) from by
     rw [hm']
     generalize n % 128 * p = z at hm
     rw [wrap_in (x := (z : Int)) zq3, wrap_in zq3]
     omega)
    clear hm'
    by_cases h128 : n < 128
    ·have hz : (n : Int) < 128 := by omega
     have e : rdNum (d + 1) ((n : Int) :: b.drop (i + j + 1)) = some (n, b.drop (i + j + 1)) := by
      show (if (n : Int) < 128 then _ else _) = _
      rw [if_pos hz, Int.toNat_natCast]
     rw [e]
     refine Ev.step (f := fun _ => some (((v + n % 128 * p : Nat) : Int), ((i + j + 1 : Nat) : Int))) (fun k => ?_) ?_
     ·simp only [spec_l4read.l0]
      rw [HW.out, if_pos zq3, if_neg zq3, if_pos zq3, if_pos zq3, hrd, HC.out, if_pos hz, HV.out, wrap_succ (i + j) zq3]
     ·have e2 : readV b.length ((some (n, b.drop (i + j + 1))).map fun q => (v + p * q.1, q.2)) = (((v + n % 128 * p : Nat) : Int), ((i + j + 1 : Nat) : Int)) := by
       unfold readV
       simp only [Option.map_some, List.length_drop]
       have hsub : b.length - (b.length - (i + j + 1)) = i + j + 1 := by omega
       rw [Nat.mod_eq_of_lt h128, Nat.mul_comm n, hsub]
      rw [e2]
      exact Ev.now _
    ·have hz : ¬ (n : Int) < 128 := by omega
     have e : rdNum (d + 1) ((n : Int) :: b.drop (i + j + 1)) = (rdNum d (b.drop (i + j + 1))).map fun q => (n % 128 + 128 * q.1, q.2) := by
      show (if (n : Int) < 128 then _ else _) = _
      rw [if_neg hz, Int.toNat_natCast]
     have e2 : ((rdNum (d + 1) ((n : Int) :: b.drop (i + j + 1))).map fun q => (v + p * q.1, q.2)) = (rdNum d (b.drop (i + (j + 1)))).map fun q => ((v + n % 128 * p) + (p * 128) * q.1, q.2) := by
      rw [e, Option.map_map, Nat.add_assoc i j 1]
      refine congrArg (fun f => Option.map f _) (funext fun q => ?_)
      simp only [Function.comp]
      rw [Nat.mul_add, ← Nat.mul_assoc, Nat.mul_comm (n % 128), Nat.add_assoc]
     rw [e2]
     have hlt2 : v + n % 128 * p < p * 128 := by
      generalize n % 128 * p = z at hm
      omega
     refine Ev.step (fun k => ?_) (ih (j + 1) (v + n % 128 * p) (p * 128) zq3 HP1.out hlt2)
     simp only [spec_l4read.l0]
     rw [HW.out, if_pos zq3, if_neg zq3, if_pos zq3, if_pos zq3, hrd, HC.out, if_neg hz, HV.out, wrap_succ j zq3]
     rw [wrap_in (x := (p : Int) * 128) zq3]
     rfl
   ·have e : b.drop (i + j) = [] := List.drop_of_length_le zq3
    rw [e]
    refine Ev.step (f := fun _ => some ((0 : Int), (-1 : Int))) (fun k => ?_) (Ev.now _)
    simp only [spec_l4read.l0]
    rw [HW.out, if_pos zq3, if_pos zq3]
 have h := key 4 0 0 1 rfl (.inl ⟨rfl, rfl⟩) zq13
 have e : ((rdNum 4 (b.drop (i + 0))).map fun q => (0 + 1 * q.1, q.2)) = rdNum 4 (b.drop i) := by
  rw [Nat.add_zero]
  cases rdNum 4 (b.drop i) with
  | none => rfl
  | some q => simp
 rw [e] at h
 exact Ev.congr (fun k => by simp only [spec_l4read.f]; rfl) h
def linesV (base : Int) (acc : List (List Int)) (o : Option (List (List Int) × List Int)) : Int × List (List Int) × Bool := match o with
 | some q => (base, acc ++ q.1, true)
 | none => (0, [], false)
theorem lines_ev (b : List Int) (hb : ∀ x ∈ b, 0 ≤ x ∧ x ≤ 255) (hl : b.length ≤ 1048576) : Ev (fun k => spec_l4lines.f k b) (match specP b with | some q => (q.1, q.2, true) | none => (0, [], false)) := by
 have L0 : ∀ (base : Int) (n pos0 : Nat) (d j pos : Nat) (acc : List (List Int)), n ≤ 1000 → j + d = n → pos ≤ b.length → acc.length = j → Ev (fun k => spec_l4lines.l0 k b base (n : Int) (pos : Int) acc (j : Int)) (linesV base acc (rdLines 4 d (b.drop pos))) := by
  intro base n pos0 d
  induction d with
  | zero =>
   intro j pos acc hn hj hp ha
   refine Ev.step (f := fun _ => some (base, acc, true)) (fun k => ?_) (by unfold linesV rdLines; simp only [List.append_nil]; exact Ev.now _)
   simp only [spec_l4lines.l0]
   rw [if_neg zq3]
  | succ d ih =>
   intro j pos acc hn hj hp ha
   have hr := read_ev b pos hb hl hp
   have e : rdLines 4 (d + 1) (b.drop pos) = (rdLine 4 (b.drop pos)).bind fun q => (rdLines 4 d q.2).map fun p => (q.1 :: p.1, p.2) := rfl
   rw [e]
   unfold rdLine
   have hs : ∀ k : Nat, spec_l4lines.l0 (k + 1) b base (n : Int) (pos : Int) acc (j : Int) = _ := fun k => by
    simp only [spec_l4lines.l0]
    rw [if_pos zq3]
   refine Ev.step hs (Ev.bind hr ?_)
   cases hq : rdNum 4 (b.drop pos) with
   | none =>
    have e1 : readV b.length (none : Option (Nat × List Int)) = (0, -1) := rfl
    rw [e1]
    refine Ev.congr (f := fun _ => some _) (fun k => ?_) (Ev.now _)
    rw [if_pos zq13]
    rfl
   | some q =>
    obtain ⟨m, r⟩ := q
    obtain ⟨q1, mm, q2, q3, q4, q5⟩ := rdNum_some 4 (b.drop pos) m r (bytes_drop hb pos) hq
    rw [List.length_drop] at q4
    rw [List.drop_drop] at q5
    have hlr : r.length = b.length - (pos + mm) := by rw [q5, List.length_drop]
    have hm4 : m < 268435456 := Nat.lt_of_lt_of_le q1 zq13
    clear q1
    have e1 : readV b.length (some (m, r)) = ((m : Int), ((pos + mm : Nat) : Int)) := by
     have hsub : b.length - r.length = pos + mm := by omega
     unfold readV
     simp only
     rw [hsub]
    rw [e1]
    have HW1 := zA (show wrap64 ((b.length : Int) - ((pos + mm : Nat) : Int)) = ((b.length - (pos + mm) : Nat) : Int) from by rw [wrap_in zq3]; omega)
    have HW2 := zA (show wrap64 (((pos + mm : Nat) : Int) + (m : Int)) = ((pos + mm + m : Nat) : Int) from by rw [wrap_in zq3]; omega)
    by_cases hm : m ≤ r.length
    ·have hR : ((some (m, r)).bind fun q => if q.1 ≤ q.2.length then some (q.2.take q.1, q.2.drop q.1) else none) = some (r.take m, b.drop (pos + mm + m)) := by
      rw [Option.bind_some]
      simp only
      rw [if_pos hm, q5, List.drop_drop]
     rw [hR]
     have hnext := ih (j + 1) (pos + mm + m) (acc ++ [r.take m]) hn zq3 zq3 (by simp [ha])
     have hV : linesV base acc ((some (r.take m, b.drop (pos + mm + m))).bind fun q => (rdLines 4 d q.2).map fun p => (q.1 :: p.1, p.2)) = linesV base (acc ++ [r.take m]) (rdLines 4 d (b.drop (pos + mm + m))) := by
      rw [Option.bind_some]
      cases rdLines 4 d (b.drop (pos + mm + m)) with
      | none => rfl
      | some p => unfold linesV; simp
     rw [hV]
     have hcut : (b.take (pos + mm + m)).drop (pos + mm) = r.take m := by
      rw [List.drop_take, q5]
      congr 1
      omega
     refine Ev.congr (fun k => ?_) hnext
     simp only
     rw [if_neg zq3, HW1.out, HW2.out, if_neg zq3, if_pos zq3, if_pos zq3, if_pos zq3, Int.toNat_natCast, Int.toNat_natCast, hcut, if_pos (by simp only [List.length_nil, List.length_take]; omega), if_pos zq3, List.nil_append, wrap_succ j zq3]
    ·have hR : ((some (m, r)).bind fun q => if q.1 ≤ q.2.length then some (q.2.take q.1, q.2.drop q.1) else none) = none := by
      rw [Option.bind_some]
      simp only
      rw [if_neg hm]
     rw [hR]
     refine Ev.congr (f := fun _ => some _) (fun k => ?_) (Ev.now _)
     simp only
     rw [if_neg zq3, HW1.out, if_pos zq3]
     rfl
 by_cases h2 : b.length < 2
 ·have e : specP b = none := by unfold specP; rw [if_pos h2]
  rw [e]
  refine Ev.congr (f := fun _ => some _) (fun k => ?_) (Ev.now _)
  simp only [spec_l4lines.f]
  rw [if_pos zq3]
 ·have e : specP b = rdHead 4 (b.drop 2) := by unfold specP; rw [if_neg h2]
  rw [e]
  unfold rdHead
  have hr := read_ev b 2 hb hl zq3
  refine Ev.congr (f := fun k => (spec_l4read.f k b ((2 : Nat) : Int)).bind fun bt447 => (if bt447.2 < 0 then (some (0, ([] : List (List Int)), false)) else ((spec_l4read.f k b bt447.2).bind fun bt449 => (if bt449.2 < 0 then (spec_l4lines.j0 k b bt447.1 bt449.1 bt449.2 true) else (spec_l4lines.j0 k b bt447.1 bt449.1 bt449.2 (decide (bt449.1 > 1000))))))) (fun k => by simp only [spec_l4lines.f]; rw [if_neg zq3]; rfl) (Ev.bind hr ?_)
  cases hq : rdNum 4 (b.drop 2) with
  | none =>
   refine Ev.congr (f := fun _ => some _) (fun k => ?_) (Ev.now _)
   have e1 : readV b.length (none : Option (Nat × List Int)) = (0, -1) := rfl
   rw [e1, if_pos zq13]
   rfl
  | some q =>
   obtain ⟨m, r⟩ := q
   obtain ⟨q1, mm, q2, q3, q4, q5⟩ := rdNum_some 4 (b.drop 2) m r (bytes_drop hb 2) hq
   rw [List.length_drop] at q4
   rw [List.drop_drop] at q5
   have hlr : r.length = b.length - (2 + mm) := by rw [q5, List.length_drop]
   have e1 : readV b.length (some (m, r)) = ((m : Int), ((2 + mm : Nat) : Int)) := by
    have hsub : b.length - r.length = 2 + mm := by omega
    unfold readV
    simp only
    rw [hsub]
   rw [e1, Option.bind_some]
   simp only
   have hr2 := read_ev b (2 + mm) hb hl zq3
   rw [← q5] at hr2
   refine Ev.congr (f := fun k => (spec_l4read.f k b ((2 + mm : Nat) : Int)).bind fun bt449 => (if bt449.2 < 0 then (spec_l4lines.j0 k b (m : Int) bt449.1 bt449.2 true) else (spec_l4lines.j0 k b (m : Int) bt449.1 bt449.2 (decide (bt449.1 > 1000))))) (fun k => by rw [if_neg zq3]) (Ev.bind hr2 ?_)
   have J0t : ∀ (x y z : Int), Ev (fun k => spec_l4lines.j0 k b x y z true) (0, [], false) := fun x y z => by
    refine Ev.step (f := fun _ => some _) (fun k => ?_) (Ev.now _)
    simp only [spec_l4lines.j0]
    rw [if_pos trivial]
   cases hq2 : rdNum 4 r with
   | none =>
    have e2 : readV b.length (none : Option (Nat × List Int)) = (0, -1) := rfl
    rw [e2]
    exact Ev.congr (fun k => if_pos zq13) (J0t _ _ _)
   | some p =>
    obtain ⟨n, r2⟩ := p
    obtain ⟨p1, m2, p2, p3, p4, p5⟩ := rdNum_some 4 r n r2 (by rw [q5]; exact bytes_drop hb _) hq2
    have p5' : r2 = b.drop (2 + mm + m2) := by rw [p5, q5, List.drop_drop]
    have hlr2 : r2.length = b.length - (2 + mm + m2) := by rw [p5', List.length_drop]
    have e2 : readV b.length (some (n, r2)) = ((n : Int), ((2 + mm + m2 : Nat) : Int)) := by
     have hsub : b.length - r2.length = 2 + mm + m2 := by omega
     unfold readV
     simp only
     rw [hsub]
    rw [e2, Option.bind_some]
    simp only
    by_cases hn : n ≤ 1000
    ·rw [if_pos hn]
     have h0 := L0 (m : Int) n 0 n 0 (2 + mm + m2) [] hn zq3 zq3 rfl
     rw [← p5'] at h0
     refine Ev.congr (f := fun k => spec_l4lines.j0 k b (m : Int) (n : Int) ((2 + mm + m2 : Nat) : Int) false) (fun k => by rw [if_neg zq3, decide_eq_false zq3]) (Ev.step (fun k => ?_) (f := fun k => spec_l4lines.l0 k b (m : Int) (n : Int) ((2 + mm + m2 : Nat) : Int) [] ((0 : Nat) : Int)) ?_)
     ·simp only [spec_l4lines.j0]
      rw [if_neg zq14]
      rfl
     ·cases hl3 : rdLines 4 n r2 with
      | none => rw [hl3] at h0; exact h0
      | some l => rw [hl3] at h0; exact h0
    ·rw [if_neg hn]
     exact Ev.congr (fun k => by rw [if_neg zq3, decide_eq_true zq3]) (J0t _ _ _)
theorem bytesOf_inj : ∀ (x y : List Int), (∀ v ∈ x, 0 ≤ v ∧ v ≤ 255) → (∀ v ∈ y, 0 ≤ v ∧ v ≤ 255) → Go.Lib.bytesOf x = Go.Lib.bytesOf y → x = y := by
 intro x
 induction x with
 | nil =>
  intro y _ _ h
  cases y with
  | nil => rfl
  | cons b t => cases h
 | cons a s ih =>
  intro y hx hy h
  cases y with
  | nil => cases h
  | cons b t =>
   have h' : UInt8.ofNat a.toNat :: Go.Lib.bytesOf s = UInt8.ofNat b.toNat :: Go.Lib.bytesOf t := h
   injection h' with h1 h2
   have ha := hx a (List.mem_cons_self ..)
   have hb := hy b (List.mem_cons_self ..)
   have h3 := congrArg UInt8.toNat h1
   rw [UInt8.toNat_ofNat', UInt8.toNat_ofNat'] at h3
   have : a = b := by omega
   rw [this, ih t (fun v hv => hx v (List.mem_cons_of_mem _ hv)) (fun v hv => hy v (List.mem_cons_of_mem _ hv)) h2]
theorem same_bytes (x y : List Int) (hx : ∀ v ∈ x, 0 ≤ v ∧ v ≤ 255) (hy : ∀ v ∈ y, 0 ≤ v ∧ v ≤ 255) : ((strOfNums x).toList == (strOfNums y).toList) = decide (x = y) := by
 rw [Go.Lib.strOfNums_toList, Go.Lib.strOfNums_toList]
 by_cases h : x = y
 ·rw [decide_eq_true h, h]
  simp
 ·rw [decide_eq_false h, beq_eq_false_iff_ne]
  exact fun e => h (bytesOf_inj x y hx hy e)
end Go.Proofs.Ytmgmdnmfalepkaa.PDec
