/- Parts of the proof (see the row's own text): SplG, Ing, IngI. -/
import Derived.Test.YtmgmdnmfalepkaaGreatG2
import Derived.Test.YtmgmdnmfalepkaaGreatG15
import Derived.Test.YtmgmdnmfalepkaaGreatG11
import Derived.Deep.RegionLaw
import Derived.Deep.RegionHeld3
import Derived.Deep.AppendLies
namespace Go.Proofs.YtmgmdnmfalepkaaGreat.Split
open Go.RowKit Go.Proofs.YtmgmdnmfalepkaaGreatW.PrintWords Go.Proofs.YtmgmdnmfalepkaaGreatW.PrintMore Go.Proofs.YtmgmdnmfalepkaaGreat.Kit Go.Proofs.YtmgmdnmfalepkaaGreat.PLines Go.Proofs.YtmgmdnmfalepkaaGreat.HelpBB
set_option linter.unusedVariables false
def Is (v : Value) (e : Ending) : Prop := e = .returned v
theorem infoB : (Tryz.prog.info? 25).map (fun i => (i.zero, i.size, i.bytes)) = some (some (.slice none 0 0), 1, 24) := by kernel_rfl
theorem cellB {w : World} {ad : Addr} {n : Nat} {xs : List Int} (h : Kd.C (Kd.int .u8) w (some ad) n xs) (i : Nat) (hi : i < n) : w.cell? (ad.add i) = some (.int .u8 (xs.getD i 0)) := by
  obtain ⟨ad', c, e, _, hK, hc0⟩ := Kd.C_get h 0 (i : Int) (by omega) (by omega)
  cases e
  rw [Int.toNat_natCast] at hK hc0
  have hk : c = [.int .u8 (xs.getD i 0)] := hK
  subst hk
  have := hc0 0 _ rfl
  simpa [Kd.int, Kd.scalar] using this
theorem cut_calls (ad : Addr) (c : Nat) (r : List Int) (w : World) (hr : Kd.C (Kd.int .u8) w (some ad) r.length r) (hc : r.length ≤ c) (hb : ∀ x ∈ r, 0 ≤ x ∧ x ≤ 255) (hl : r.length ≤ 1048576) :
    ∃ A2 c2 F, (r.drop (cutAt r + 1)).length ≤ c2 ∧ Kd.C (Kd.int .u8) w A2 (r.drop (cutAt r + 1)).length (r.drop (cutAt r + 1)) ∧ ∀ (W : World) (b2 : Nat), Below w.heap.size w W → W.cell? ⟨b2, 0, none⟩ = some (.int .u8 10) →
      Calls Tryz.prog 76 #[.slice (some ad) r.length c, .slice (some ⟨b2, 0, none⟩) 1 1] W fun e w' => Is (.tuple #[.slice (some ad) (cutAt r) c, .slice A2 (r.drop (cutAt r + 1)).length c2, .bool F]) e ∧ ∃ q, w' = W.drewN q := by
  have hcl := cutAt_le r
  have key : ∃ A2 c2 F, (r.drop (cutAt r + 1)).length ≤ c2 ∧ Kd.C (Kd.int .u8) w A2 (r.drop (cutAt r + 1)).length (r.drop (cutAt r + 1)) ∧ Go.Lib.cutV (some ad) r.length c 1 (Go.Lib.indexByte (Go.Lib.bytesOf r) ((10 : Int).toNat.toUInt8)) = .tuple #[.slice (some ad) (cutAt r) c, .slice A2 (r.drop (cutAt r + 1)).length c2, .bool F] := by
    rw [index_cut r hb]
    by_cases h : cutAt r < r.length
    · rw [if_pos h]
      have hd := Kd.C_drop (c := c) hr (m := cutAt r + 1) (by omega) hc
      refine ⟨_, c - (cutAt r + 1), true, ?_, hd, ?_⟩
      · rw [List.length_drop]; omega
      · unfold Go.Lib.cutV Go.Lib.fromV
        rw [if_pos (by omega), Int.toNat_natCast, List.length_drop]
        simp [Kd.int, Kd.scalar]
    · rw [if_neg h]
      have e : r.drop (cutAt r + 1) = [] := List.drop_of_length_le (by omega)
      rw [e]
      refine ⟨none, 0, false, Nat.le_refl _, Kd.C_nil _ _, ?_⟩
      unfold Go.Lib.cutV
      rw [if_neg (by omega)]
      have : cutAt r = r.length := by omega
      rw [this]
      rfl
  obtain ⟨A2, c2, F, k1, k2, k3⟩ := key
  refine ⟨A2, c2, F, k1, k2, fun W b2 hB h10 => ?_⟩
  have hidx : Calls Tryz.prog 99 #[.slice (some ad) r.length c, .slice (some ⟨b2, 0, none⟩) 1 1] W fun e w' => e = .returned (.int .i64 (Go.Lib.indexByte (Go.Lib.bytesOf r) ((10 : Int).toNat.toUInt8))) ∧ ∃ q, w' = W.drewN q := by
    refine (Tryz.bytes_Index_one_at ad r.length c b2 0 1 r 10 W rfl (fun i hi => (pw_cell_below hB (cellB hr i hi))) h10).mono ?_
    rintro e w' ⟨rfl, rfl⟩
    exact ⟨rfl, 0, rfl⟩
  have hcall := Tryz.bytes_Cut_of (some ad) (some ⟨b2, 0, none⟩) r.length c 1 1 _ W hc (Go.Lib.indexByte_ge _ _) (fun h => by
    rw [index_cut r hb] at h ⊢
    by_cases hh : cutAt r < r.length
    · rw [if_pos hh]; omega
    · rw [if_neg hh] at h; omega) (by omega) hidx
  rw [k3] at hcall
  exact hcall
theorem clone_calls (ad : Addr) (c : Nat) (r : List Int) (w : World) (hr : Kd.C (Kd.int .u8) w (some ad) r.length r) (hl : r.length ≤ 1048576) (wr : World) (hwr : Below w.heap.size w wr) : ∀ W : World, Below wr.heap.size wr W →
    Calls Tryz.prog 77 #[.slice (some ad) (cutAt r) c] W fun e w' => ∃ Av cv, e = .returned (.slice Av (cutAt r) cv) ∧ (Kd.int .u8).R 5 w' wr.heap.size (fun _ => True) (.slice Av (cutAt r) cv) (r.take (cutAt r)) ∧ Below wr.heap.size wr w' := by
  intro W hW
  have hcl := cutAt_le r
  have hlen : (r.take (cutAt r)).length = cutAt r := by rw [List.length_take]; omega
  have ht := Kd.C_take hr hcl
  rw [hlen] at ht
  refine (Tryz.bytes_Clone_at ad (cutAt r) c (r.take (cutAt r)) W hlen (by omega) (fun i hi => pw_cell_below (grew_trans hwr hW) (cellB ht i hi))).mono ?_
  rintro e w' ⟨v', rfl, ho, _, hb⟩
  have hR : (Kd.int .u8).R 5 w' W.heap.size (fun _ => True) v' (r.take (cutAt r)) := Kd.R_of_own (by rw [hlen]; exact ho) (fun _ _ => trivial)
  obtain ⟨Av, cv, rfl⟩ := Kd.R_slice hR
  rw [hlen] at hR ⊢
  exact ⟨Av, cv, rfl, Kd.R_lower hR hW.size, grew_trans hW hb⟩
set_option maxRecDepth 100000 in
set_option maxHeartbeats 4000000 in
theorem split_calls (A : Option Addr) (c : Nat) (t : List Int) (w : World) (hr : Kd.C (Kd.int .u8) w A t.length t) (hc : t.length ≤ c) (hb : ∀ x ∈ t, 0 ≤ x ∧ x ≤ 255) (hl : t.length ≤ 1048576) :
    Calls Tryz.prog 51 #[.slice A t.length c] w fun e w' => ∃ v, e = .returned v ∧ Kd.S kB 25 w' w.heap.size (fun _ => True) v (lines t) ∧ Grew w w' := by
  have HR := Aside0.mk hr
  have HBD := Aside0.mk hb
  have HL := Aside0.mk hl
  clear hr hb hl
  go_enter Tryz.func51, Tryz.ntmps51
  go_wp2_with fail
  go_loopg [0, 3] t.length (fun gg s0 s3 wr => ∃ (A' : Option Addr) (c' : Nat) (r : List Int) (done : List (List Int)), r.length ≤ gg ∧ s0 = .slice A' r.length c' ∧ r.length ≤ c' ∧ Aside0 (Kd.C (Kd.int .u8) w A' r.length r) ∧ Aside0 (Kd.S kB 25 wr w.heap.size (fun _ => True) s3 done) ∧ Aside0 (Below w.heap.size w wr) ∧ Aside0 (lines t = done ++ lines r) ∧ Aside0 (done.length + r.length ≤ t.length) ∧ Aside0 (∀ x ∈ r, 0 ≤ x ∧ x ≤ 255))
  case atStart =>
    refine ⟨A, c, t, [], Nat.le_refl _, rfl, hc, HR, ⟨⟨fun _ => 0, fun _ _ => trivial, [], ⟨rfl, .inr ⟨w.heap.size, 0, #[], rfl, Nat.le_refl _, heap_alloc_new w _, by simp, by simp [maxLen], rfl, rfl⟩⟩, Reps.none _ _⟩⟩, ⟨below_alloc (Below.refl _ _) _⟩, ⟨rfl⟩, ⟨by simp⟩, HBD⟩
  case round =>
    obtain ⟨A', c', r, done, hg, rfl, hrc, HC, HS, HB, HT, HN, HX⟩ := hrel
    by_cases hz : 0 < r.length
    · have hzz : (0 : Int) < (r.length : Int) := by omega
      obtain ⟨ad, hA, _⟩ := HC.out.2.2 hz
      subst hA
      obtain ⟨A2, c2, F, k1, k2, k3⟩ := cut_calls ad c' r w HC.out hrc HX.out (by have := HN.out; have := HL.out; omega)
      have hcl := cutAt_le r
      have hclone := clone_calls ad c' r w HC.out (by have := HN.out; have := HL.out; omega) wr HB.out
      have HK1 := Aside0.mk k1
      have HK2 := Aside0.mk k2
      clear k1 k2
      go_wp2_with (first | (go_at_call 76; refine (k3 _ wr.heap.size (below_alloc HB.out _) ((blk_cell (heap_alloc_new _ _) 0).trans rfl)).mono ?_; rintro e w' ⟨rfl, q, rfl⟩) | (go_at_call 77; refine (hclone _ (by repeat (first | exact Below.refl _ _ | apply below_alloc | apply below_drew | apply pw_below_drewN))).mono ?_; rintro e w' ⟨Av, cv, rfl, hR', hb'⟩) | (at_builtin; refine Kd.S_append kB (w0 := w) w.heap.size rfl (.tmp 18) (.tmp 21) 22 25 (.slice none 0 0) 24 rfl Tryz.underlying22 infoB rfl (by decide) (by omega) u3 done (r.take (cutAt r)) [.slice Av (cutAt r) cv] (fun _ => True) (fun k_ => some k_ = (.slice Av (cutAt r) cv : Value).ownBlock) rfl rfl ?aP ?aK (fun _ _ => trivial) ?aO ?aB ?aS ?aL ?_; (case aP => exact Kd.M_row (Kd.R_lower (Kd.R_tight rfl hR') HB.out.size)); (case aK => exact fun k hk => ⟨trivial, fun e => by have h1 := Kd.R_base hR' k hk.symm; have h2 := Kd.S_lt HS.out k e.symm; omega⟩); (case aO => exact Kd.S_mono (Kd.S_old HS.out hb') (fun k hk => ⟨trivial, fun e => by have h1 := Kd.R_base hR' k e.symm; have h2 := hk.2; omega⟩)); (case aB => exact grew_trans HB.out hb'); (case aS => exact (grew_trans HB.out hb').size); (case aL => have := HN.out; have := HL.out; omega); intro v1 w1 hO1 hB1 hg1 hat1))
      go_roundg (r.drop (cutAt r + 1)).length
      case measure => rw [List.length_drop]; omega
      case rel =>
        refine ⟨A2, c2, r.drop (cutAt r + 1), done ++ [r.take (cutAt r)], Nat.le_refl _, by rw [List.length_drop], HK1.out, HK2, ⟨hO1⟩, ⟨hB1⟩, ⟨?_⟩, ⟨?_⟩, ⟨fun x hx => HX.out x (List.mem_of_mem_drop hx)⟩⟩
        · rw [HT.out, lines_step r (by intro e; rw [e] at hz; simp at hz), List.append_assoc]
          rfl
        · rw [List.length_append, List.length_drop]
          have := HN.out
          simp
          omega
    · have hzz : ¬ (0 : Int) < (r.length : Int) := by omega
      obtain rfl : r = [] := List.length_eq_zero_iff.1 (by omega)
      go_wp2
      go_ret
      refine ⟨_, rfl, ?_, HB.out⟩
      rw [HT.out, lines_nil, List.append_nil]
      exact HS.out
end Go.Proofs.YtmgmdnmfalepkaaGreat.Split

namespace Go.Proofs.YtmgmdnmfalepkaaGreat.Ing
open Go.RowKit Go.Proofs.YtmgmdnmfalepkaaGreatW.PrintWords Go.Proofs.YtmgmdnmfalepkaaGreatW.PrintMore Go.Proofs.YtmgmdnmfalepkaaGreat.Kit Go.Proofs.YtmgmdnmfalepkaaGreat.PKit Go.Proofs.YtmgmdnmfalepkaaGreat.Ty Go.Proofs.YtmgmdnmfalepkaaGreat.PSeg Go.Proofs.YtmgmdnmfalepkaaGreat.PEnc Go.Proofs.YtmgmdnmfalepkaaGreat.PDec Go.Proofs.YtmgmdnmfalepkaaGreat.PSta Go.Proofs.YtmgmdnmfalepkaaGreat.HelpBB Go.Proofs.YtmgmdnmfalepkaaGreat.HelpSeg
open Go.Proofs.YtmgmdnmfalepkaaGreat.Build hiding code ans
open Go.Proofs.YtmgmdnmfalepkaaGreat.Sto Go.Proofs.YtmgmdnmfalepkaaGreat.PLines
set_option linter.unusedVariables false
set_option linter.unusedSimpArgs false
theorem total_lines : ∀ (n : Nat) (t : List Int), t.length ≤ n → totalB (lines t) ≤ t.length := by
  intro n
  induction n with
  | zero =>
    intro t h
    obtain rfl := List.length_eq_zero_iff.1 (Nat.le_zero.1 h)
    rw [lines_nil]; exact Nat.le_refl _
  | succ n ih =>
    intro t h
    by_cases ht : t = []
    · subst ht; rw [lines_nil]; exact Nat.le_refl _
    · rw [lines_step t ht]
      show (t.take (cutAt t)).length + totalB (lines (t.drop (cutAt t + 1))) ≤ t.length
      have hp : 0 < t.length := List.length_pos_iff.2 ht
      have h1 := ih (t.drop (cutAt t + 1)) (by rw [List.length_drop]; omega)
      have h2 := cutAt_le t
      rw [List.length_drop] at h1
      rw [List.length_take]
      omega
def room (ss : List SegT) (op ls : List (List Int)) : Bool := decide (nlin ss + op.length + ls.length ≤ 1000) && decide (totalB op + tots ss + totalB ls ≤ 20000)
def ingF (op : List (List Int)) (t : List Int) : StepT := fun ss => if room ss op (lines t) = true then ((ss, op ++ lines t), 0) else ((ss, op), 6)
set_option maxRecDepth 100000 in
set_option maxHeartbeats 16000000 in
theorem ingest_calls (x : StaT) (t : List Int) (At : Option Addr) (ct : Nat) (w0 : World) (hb0 : Bytes x.1) (s1 : smallBB x.2) (hbt : ∀ y ∈ t, 0 ≤ y ∧ y ≤ 255) (hlt : t.length ≤ 1048576) (hct : t.length ≤ ct)
    (W : World) (gs N : Nat) (Av Ao : Option Addr) (cv co : Nat) (ss : List SegT) (hss : segsOf x = some ss) (hgood : ∀ s ∈ ss, Sto.Good s) (hB : Below w0.heap.size w0 W) (hg0 : w0.heap.size ≤ gs) (hgN : gs < N) (hNW : N ≤ W.heap.size)
    (hk : W.heap[gs]? = some (.cells #[.slice Av ss.length cv, .slice Ao x.2.length co] 79 (0, 0))) (hR : Kd.R kSeg 59 W w0.heap.size (fun k => gs < k ∧ k < N) (.slice Av ss.length cv) ss) (hS : Kd.S kB 25 W w0.heap.size (fun k => N ≤ k) (.slice Ao x.2.length co) x.2)
    (htx : Kd.C (Kd.int .u8) W At t.length t) :
    Calls Tryz.prog 29 #[.pointer (some ⟨gs, 0, none⟩), .slice At t.length ct] W fun e w' => ∃ (Bv : Option Addr) (dv : Nat) (Bo : Option Addr) (do_ : Nat), e = .returned (.int .i64 (ingF x.2 t ss).2) ∧ w'.heap[gs]? = some (.cells #[.slice Bv (ingF x.2 t ss).1.1.length dv, .slice Bo (ingF x.2 t ss).1.2.length do_] 79 (0, 0)) ∧ Kd.C kSeg w' Bv (ingF x.2 t ss).1.1.length (ingF x.2 t ss).1.1 ∧ Kd.C kB w' Bo (ingF x.2 t ss).1.2.length (ingF x.2 t ss).1.2 ∧ (ingF x.2 t ss).1.2.length ≤ do_ ∧ Below w0.heap.size w0 w' := by
  obtain ⟨n1, n2, n3⟩ := chain_len0 (segsOf_some hss).1
  have huS := Tryz.underlying79
  have HB := Aside0.mk hB
  have BK := Aside0.mk hk
  have HR := Aside0.mk hR
  have HS := Aside0.mk hS
  obtain ⟨_, hco, hC⟩ := Kd.S_reads' hS
  have HC := Aside0.mk hC
  have HRC := Aside0.mk (Kd.R_reads' hR).2.2
  have GSN := Aside0.mk (show gs < W.heap.size from by omega)
  have NW := Aside0.mk hNW
  have HGD := Aside0.mk hgood
  have qx : x.2.length + totalB x.2 ≤ 1048576 := s1
  have L1 := lines_len t.length t (Nat.le_refl _)
  have L2 := total_lines t.length t (Nat.le_refl _)
  have HSP := Split.split_calls At ct t W htx hct hbt hlt
  have HS1 := Aside0.mk s1
  clear hss hgood hB hk hR hS hC s1 htx hNW hbt
  generalize hls : lines t = ls at HSP L1 L2
  have HLS := Aside0.mk hls
  clear hls
  obtain ⟨⟨p0, q0⟩, ⟨p1, q1⟩⟩ := cells2 BK.out
  go_enter Tryz.func29, Tryz.ntmps29
  go_wp2_with fail
  go_at_call 51
  refine HSP.mono ?_
  rintro e w5 ⟨v5, rfl, hS5, hb5⟩
  obtain ⟨A5, c5, rfl⟩ := Kd.S_slice hS5
  have HS5 := Aside0.mk hS5
  have HB5 := Aside0.mk hb5
  obtain ⟨_, hc5, hC5⟩ := Kd.S_reads' hS5
  have hts : ls.length + totalB ls ≤ 4194304 := by omega
  have HSE := Aside0.mk (fun (w' : World) (hW : Below w5.heap.size w5 w') => sealed_calls gs Av cv ss.length ss rfl (.slice Ao x.2.length co) w' (blk_below BK.out (grew_trans HB5.out hW)) (Kd.C_below HRC.out (grew_trans HB5.out hW)) n1 (by omega))
  have HBY := Aside0.mk (fun (w' : World) (hW : Below w5.heap.size w5 w') => bytes_calls gs Av Ao cv co ss.length x.2.length ss x.2 rfl rfl w' (blk_below BK.out (grew_trans HB5.out hW)) (Kd.C_below HRC.out (grew_trans HB5.out hW)) (Kd.C_below HC.out (grew_trans HB5.out hW)) hco HS1.out n3 HGD.out)
  have HTO := Aside0.mk (fun (w' : World) (hW : Below w5.heap.size w5 w') => (total_big A5 c5 ls w' (Kd.C_below hC5 hW) hc5 hts).mono (R' := fun e w'' => e = .returned (.int .i64 (totalB ls : Int)) ∧ Below w'.heap.size w' w'') (fun e w'' h => ⟨h.1, by rw [h.2]; exact Below.refl _ _⟩))
  have HKP := Aside0.mk (show ∀ w' : World, Below w5.heap.size w5 w' → (w'.cell? ⟨gs, 0, none⟩ = some (.slice Av ss.length cv) ∧ w'.cell? ⟨gs, 1, none⟩ = some (.slice Ao x.2.length co)) from fun w' hW => ⟨(blk_cell (blk_below BK.out (grew_trans HB5.out hW)) 0).trans rfl, (blk_cell (blk_below BK.out (grew_trans HB5.out hW)) 1).trans rfl⟩)
  have HC5 := Aside0.mk hC5
  clear hS5 hb5 hC5 HSP p0 q0 p1 q1
  have hw1 : IntKind.i64.wrap (((nlin ss : Nat) : Int) + (x.2.length : Int)) = ((nlin ss : Nat) : Int) + (x.2.length : Int) := by rw [IntKind.wrap_i64]; omega
  have hw2 : IntKind.i64.wrap (((nlin ss : Nat) : Int) + (x.2.length : Int) + (ls.length : Int)) = ((nlin ss : Nat) : Int) + (x.2.length : Int) + (ls.length : Int) := by clear hw1; rw [IntKind.wrap_i64]; omega
  by_cases hlen : nlin ss + x.2.length + ls.length ≤ 1000
  case neg =>
    have hlz : (1000 : Int) < ((nlin ss : Nat) : Int) + (x.2.length : Int) + (ls.length : Int) := by clear hw1 hw2; omega
    have HF := Aside0.mk (show ingF x.2 t ss = ((ss, x.2), 6) from by unfold ingF room; rw [HLS.out, decide_eq_false hlen]; rfl)
    clear hlen
    go_wp2_with fail
    refine wp_region_held_drew (S := (fun W_ => W_.cell? ⟨gs, 0, none⟩ = some (.slice Av ss.length cv) ∧ W_.cell? ⟨gs, 1, none⟩ = some (.slice Ao x.2.length co))) (by kernel_rfl) (by (try dsimp only); (refine HKP.out _ ?_; repeat (with_reducible first | exact Hw8.out | exact Hw7.out | exact Hw6.out | exact Below.refl _ _ | refine below_alloc ?_ _ | refine below_drew1 ?_ | refine pw_below_drewN ?_ _))) (fun hHeld => ?_)
    refine wpAnyH_take (i := 0) (v := ?_) rfl (by kernel_rfl) (by kernel_rfl) (by kernel_rfl) (fun _ _ _ h => h) (Or.inl ⟨by rfl, ?_⟩) hHeld ?_
    rotate_left
    · intro w_ hSw; (try dsimp only at hSw); go_simp; try with_reducible rfl
    simp only [Act.put, List.setIfInBounds_toArray, List.set_cons_zero, List.set_cons_succ, List.getElem_toArray, List.getElem_cons_zero, List.getElem_cons_succ, Array.getInternal_eq_getElem]
    refine wpAnyH_take (i := 2) (v := ?_) rfl (by kernel_rfl) (by kernel_rfl) (by kernel_rfl) (fun _ _ _ h => h) (Or.inl ⟨by rfl, ?_⟩) hHeld ?_
    rotate_left
    · intro w_ hSw; (try dsimp only at hSw); go_simp; try with_reducible rfl
    simp only [Act.put, List.setIfInBounds_toArray, List.set_cons_zero, List.set_cons_succ, List.getElem_toArray, List.getElem_cons_zero, List.getElem_cons_succ, Array.getInternal_eq_getElem]
    refine wpAnyH_take (i := 3) (v := ?_) rfl (by kernel_rfl) (by kernel_rfl) (by kernel_rfl) (fun _ _ _ h => h) (Or.inl ⟨by rfl, ?_⟩) hHeld ?_
    rotate_left
    · intro w_ hSw; (try dsimp only at hSw); go_simp; try with_reducible rfl
    simp only [Act.put, List.setIfInBounds_toArray, List.set_cons_zero, List.set_cons_succ, List.getElem_toArray, List.getElem_cons_zero, List.getElem_cons_succ, Array.getInternal_eq_getElem]
    refine wpAnyH_take (i := 4) (v := ?_) rfl (by kernel_rfl) (by kernel_rfl) (by kernel_rfl) (fun _ _ _ h => h) (Or.inl ⟨by rfl, ?_⟩) hHeld ?_
    rotate_left
    · intro w_ hSw; (try dsimp only at hSw); go_simp; try with_reducible rfl
    simp only [Act.put, List.setIfInBounds_toArray, List.set_cons_zero, List.set_cons_succ, List.getElem_toArray, List.getElem_cons_zero, List.getElem_cons_succ, Array.getInternal_eq_getElem]
    refine wpAnyH_take (i := 5) (v := ?_) rfl (by kernel_rfl) (by kernel_rfl) (by kernel_rfl) (fun _ _ _ h => h) (Or.inl ⟨by rfl, ?_⟩) hHeld ?_
    rotate_left
    · intro w_ hSw; (try dsimp only at hSw); go_simp; try with_reducible rfl
    simp only [Act.put, List.setIfInBounds_toArray, List.set_cons_zero, List.set_cons_succ, List.getElem_toArray, List.getElem_cons_zero, List.getElem_cons_succ, Array.getInternal_eq_getElem]
    refine wpAnyH_take (i := 6) (v := ?_) rfl (by kernel_rfl) (by kernel_rfl) (by kernel_rfl) (fun _ _ _ h => h) (Or.inl ⟨by rfl, ?_⟩) hHeld ?_
    rotate_left
    · intro w_ hSw; (try dsimp only at hSw); go_simp; try with_reducible rfl
    simp only [Act.put, List.setIfInBounds_toArray, List.set_cons_zero, List.set_cons_succ, List.getElem_toArray, List.getElem_cons_zero, List.getElem_cons_succ, Array.getInternal_eq_getElem]
    refine wpAnyH_take (i := 8) (v := ?_) rfl (by kernel_rfl) (by kernel_rfl) (by kernel_rfl) (fun _ _ _ h => h) (Or.inl ⟨by rfl, ?_⟩) hHeld ?_
    rotate_left
    · intro w_ hSw; (try dsimp only at hSw); go_simp; try with_reducible rfl
    simp only [Act.put, List.setIfInBounds_toArray, List.set_cons_zero, List.set_cons_succ, List.getElem_toArray, List.getElem_cons_zero, List.getElem_cons_succ, Array.getInternal_eq_getElem]
    refine wpAnyH_take (i := 9) (v := ?_) rfl (by kernel_rfl) (by kernel_rfl) (by kernel_rfl) (fun _ _ _ h => h) (Or.inl ⟨by rfl, ?_⟩) hHeld ?_
    rotate_left
    · intro w_ hSw; (try dsimp only at hSw); go_simp; try with_reducible rfl
    simp only [Act.put, List.setIfInBounds_toArray, List.set_cons_zero, List.set_cons_succ, List.getElem_toArray, List.getElem_cons_zero, List.getElem_cons_succ, Array.getInternal_eq_getElem]
    refine wpAnyH_ready (rs := [1]) (by kernel_rfl) (by simp) ?_
    refine AllReadyH.cons rfl (fun K hK => ?_) AllReadyH.nil
    simp only [List.getElem_toArray, List.getElem_cons_zero, List.getElem_cons_succ, Array.getInternal_eq_getElem]
    go_simp
    go_at_call 52; (with_reducible refine (HSE.out _ (by repeat (first | exact Below.refl _ _ | apply below_alloc | apply below_drew1 | apply pw_below_drewN))).mono ?_); rintro e w6 ⟨rfl, hb_⟩; have Hw6 := Aside0.mk (show Below w5.heap.size w5 w6 from grew_trans (by repeat (first | exact Below.refl _ _ | apply below_alloc | apply below_drew1 | apply pw_below_drewN)) hb_); clear hb_
    go_wp2_with fail
    clear hHeld
    refine hK.out _ _ (by (try dsimp only); (refine HKP.out _ ?_; repeat (with_reducible first | exact Hw8.out | exact Hw7.out | exact Hw6.out | exact Below.refl _ _ | refine below_alloc ?_ _ | refine below_drew1 ?_ | refine pw_below_drewN ?_ _))) (fun hHeld => ?_)
    clear hK K
    (try simp only [Act.put, List.setIfInBounds_toArray, List.set_cons_zero, List.set_cons_succ, List.getElem_toArray, List.getElem_cons_zero, List.getElem_cons_succ, Array.getInternal_eq_getElem])
    refine wpAnyH_take (i := 7) (v := ?_) rfl (by kernel_rfl) (by kernel_rfl) (by kernel_rfl) (fun _ _ _ h => h) (Or.inl ⟨by rfl, ?_⟩) hHeld ?_
    rotate_left
    · intro w_ hSw; (try dsimp only at hSw); go_simp; try with_reducible rfl
    simp only [Act.put, List.setIfInBounds_toArray, List.set_cons_zero, List.set_cons_succ, List.getElem_toArray, List.getElem_cons_zero, List.getElem_cons_succ, Array.getInternal_eq_getElem]
    refine wpAnyH_take (i := 10) (v := ?_) rfl (by kernel_rfl) (by kernel_rfl) (by kernel_rfl) (fun _ _ _ h => h) (Or.inl ⟨by rfl, ?_⟩) hHeld ?_
    rotate_left
    · intro w_ hSw; (try dsimp only at hSw); go_simp; try with_reducible rfl
    simp only [Act.put, List.setIfInBounds_toArray, List.set_cons_zero, List.set_cons_succ, List.getElem_toArray, List.getElem_cons_zero, List.getElem_cons_succ, Array.getInternal_eq_getElem]
    refine wpAnyH_take (i := 11) (v := ?_) rfl (by kernel_rfl) (by kernel_rfl) (by kernel_rfl) (fun _ _ _ h => h) (Or.inl ⟨by rfl, ?_⟩) hHeld ?_
    rotate_left
    · intro w_ hSw; (try dsimp only at hSw); go_simp; try with_reducible rfl
    simp only [Act.put, List.setIfInBounds_toArray, List.set_cons_zero, List.set_cons_succ, List.getElem_toArray, List.getElem_cons_zero, List.getElem_cons_succ, Array.getInternal_eq_getElem]
    refine wpAnyH_take (i := 12) (v := ?_) rfl (by kernel_rfl) (by kernel_rfl) (by kernel_rfl) (fun _ _ _ h => h) (Or.inl ⟨by rfl, ?_⟩) hHeld ?_
    rotate_left
    · intro w_ hSw; (try dsimp only at hSw); go_simp; try with_reducible rfl
    simp only [Act.put, List.setIfInBounds_toArray, List.set_cons_zero, List.set_cons_succ, List.getElem_toArray, List.getElem_cons_zero, List.getElem_cons_succ, Array.getInternal_eq_getElem]
    refine wpAnyH_take (i := 13) (v := undef) rfl (by kernel_rfl) (by kernel_rfl) (by kernel_rfl) (fun _ _ _ h => h) (Or.inr ⟨by rfl, rfl⟩) hHeld ?_
    simp only [Act.put, List.setIfInBounds_toArray, List.set_cons_zero, List.set_cons_succ, List.getElem_toArray, List.getElem_cons_zero, List.getElem_cons_succ, Array.getInternal_eq_getElem]
    refine wpAnyH_take (i := 15) (v := undef) rfl (by kernel_rfl) (by kernel_rfl) (by kernel_rfl) (fun _ _ _ h => h) (Or.inr ⟨by rfl, rfl⟩) hHeld ?_
    simp only [Act.put, List.setIfInBounds_toArray, List.set_cons_zero, List.set_cons_succ, List.getElem_toArray, List.getElem_cons_zero, List.getElem_cons_succ, Array.getInternal_eq_getElem]
    refine wpAnyH_take (i := 14) (v := undef) rfl (by kernel_rfl) (by kernel_rfl) (by kernel_rfl) (fun _ _ _ h => h) (Or.inr ⟨by rfl, rfl⟩) hHeld ?_
    simp only [Act.put, List.setIfInBounds_toArray, List.set_cons_zero, List.set_cons_succ, List.getElem_toArray, List.getElem_cons_zero, List.getElem_cons_succ, Array.getInternal_eq_getElem]
    refine wpAnyH_take (i := 16) (v := undef) rfl (by kernel_rfl) (by kernel_rfl) (by kernel_rfl) (fun _ _ _ h => h) (Or.inr ⟨by rfl, rfl⟩) hHeld ?_
    simp only [Act.put, List.setIfInBounds_toArray, List.set_cons_zero, List.set_cons_succ, List.getElem_toArray, List.getElem_cons_zero, List.getElem_cons_succ, Array.getInternal_eq_getElem]
    refine wpAnyH_take (i := 17) (v := undef) rfl (by kernel_rfl) (by kernel_rfl) (by kernel_rfl) (fun _ _ _ h => h) (Or.inr ⟨by rfl, rfl⟩) hHeld ?_
    simp only [Act.put, List.setIfInBounds_toArray, List.set_cons_zero, List.set_cons_succ, List.getElem_toArray, List.getElem_cons_zero, List.getElem_cons_succ, Array.getInternal_eq_getElem]
    refine wpAnyH_take (i := 18) (v := undef) rfl (by kernel_rfl) (by kernel_rfl) (by kernel_rfl) (fun _ _ _ h => h) (Or.inr ⟨by rfl, rfl⟩) hHeld ?_
    simp only [Act.put, List.setIfInBounds_toArray, List.set_cons_zero, List.set_cons_succ, List.getElem_toArray, List.getElem_cons_zero, List.getElem_cons_succ, Array.getInternal_eq_getElem]
    refine wpAnyH_take (i := 19) (v := ?_) rfl (by kernel_rfl) (by kernel_rfl) (by kernel_rfl) (fun _ _ _ h => h) (Or.inl ⟨by rfl, ?_⟩) hHeld ?_
    rotate_left
    · intro w_ hSw; (try dsimp only at hSw); go_simp; try with_reducible rfl
    simp only [Act.put, List.setIfInBounds_toArray, List.set_cons_zero, List.set_cons_succ, List.getElem_toArray, List.getElem_cons_zero, List.getElem_cons_succ, Array.getInternal_eq_getElem]
    refine wpAnyH_done (by kernel_rfl) ?_ _
    clear hw1 hw2
    go_wp2
    go_ret
    rw [HF.out]
    first | refine ⟨Av, cv, Ao, co, rfl, ?_⟩ | refine ⟨rfl, Av, cv, Ao, co, ?_⟩
    exact ⟨blk_below BK.out (grew_trans HB5.out Hw6.out), Kd.C_below HRC.out (grew_trans HB5.out Hw6.out), Kd.C_below HC.out (grew_trans HB5.out Hw6.out), hco, grew_trans HB.out (grew_trans HB5.out Hw6.out)⟩
  case pos =>
    have hlz : ¬ (1000 : Int) < ((nlin ss : Nat) : Int) + (x.2.length : Int) + (ls.length : Int) := by clear hw1 hw2; omega
    have hld : decide ((1000 : Int) < ((nlin ss : Nat) : Int) + (x.2.length : Int) + (ls.length : Int)) = false := decide_eq_false hlz
    have hw3 : IntKind.i64.wrap ((totalB x.2 : Int) + ((tots ss : Nat) : Int) + (totalB ls : Int)) = (totalB x.2 : Int) + ((tots ss : Nat) : Int) + (totalB ls : Int) := by clear hw1 hw2; rw [IntKind.wrap_i64]; omega
    by_cases htot : totalB x.2 + tots ss + totalB ls ≤ 20000
    case neg =>
      have htz : (20000 : Int) < (totalB x.2 : Int) + ((tots ss : Nat) : Int) + (totalB ls : Int) := by clear hw1 hw2 hw3; omega
      have HF := Aside0.mk (show ingF x.2 t ss = ((ss, x.2), 6) from by unfold ingF room; rw [HLS.out, decide_eq_true hlen, decide_eq_false htot]; rfl)
      clear hlen htot
      go_wp2_with fail
      refine wp_region_held_drew (S := (fun W_ => W_.cell? ⟨gs, 0, none⟩ = some (.slice Av ss.length cv) ∧ W_.cell? ⟨gs, 1, none⟩ = some (.slice Ao x.2.length co))) (by kernel_rfl) (by (try dsimp only); (refine HKP.out _ ?_; repeat (with_reducible first | exact Hw8.out | exact Hw7.out | exact Hw6.out | exact Below.refl _ _ | refine below_alloc ?_ _ | refine below_drew1 ?_ | refine pw_below_drewN ?_ _))) (fun hHeld => ?_)
      refine wpAnyH_take (i := 0) (v := ?_) rfl (by kernel_rfl) (by kernel_rfl) (by kernel_rfl) (fun _ _ _ h => h) (Or.inl ⟨by rfl, ?_⟩) hHeld ?_
      rotate_left
      · intro w_ hSw; (try dsimp only at hSw); go_simp; try with_reducible rfl
      simp only [Act.put, List.setIfInBounds_toArray, List.set_cons_zero, List.set_cons_succ, List.getElem_toArray, List.getElem_cons_zero, List.getElem_cons_succ, Array.getInternal_eq_getElem]
      refine wpAnyH_take (i := 2) (v := ?_) rfl (by kernel_rfl) (by kernel_rfl) (by kernel_rfl) (fun _ _ _ h => h) (Or.inl ⟨by rfl, ?_⟩) hHeld ?_
      rotate_left
      · intro w_ hSw; (try dsimp only at hSw); go_simp; try with_reducible rfl
      simp only [Act.put, List.setIfInBounds_toArray, List.set_cons_zero, List.set_cons_succ, List.getElem_toArray, List.getElem_cons_zero, List.getElem_cons_succ, Array.getInternal_eq_getElem]
      refine wpAnyH_take (i := 3) (v := ?_) rfl (by kernel_rfl) (by kernel_rfl) (by kernel_rfl) (fun _ _ _ h => h) (Or.inl ⟨by rfl, ?_⟩) hHeld ?_
      rotate_left
      · intro w_ hSw; (try dsimp only at hSw); go_simp; try with_reducible rfl
      simp only [Act.put, List.setIfInBounds_toArray, List.set_cons_zero, List.set_cons_succ, List.getElem_toArray, List.getElem_cons_zero, List.getElem_cons_succ, Array.getInternal_eq_getElem]
      refine wpAnyH_take (i := 4) (v := ?_) rfl (by kernel_rfl) (by kernel_rfl) (by kernel_rfl) (fun _ _ _ h => h) (Or.inl ⟨by rfl, ?_⟩) hHeld ?_
      rotate_left
      · intro w_ hSw; (try dsimp only at hSw); go_simp; try with_reducible rfl
      simp only [Act.put, List.setIfInBounds_toArray, List.set_cons_zero, List.set_cons_succ, List.getElem_toArray, List.getElem_cons_zero, List.getElem_cons_succ, Array.getInternal_eq_getElem]
      refine wpAnyH_take (i := 5) (v := ?_) rfl (by kernel_rfl) (by kernel_rfl) (by kernel_rfl) (fun _ _ _ h => h) (Or.inl ⟨by rfl, ?_⟩) hHeld ?_
      rotate_left
      · intro w_ hSw; (try dsimp only at hSw); go_simp; try with_reducible rfl
      simp only [Act.put, List.setIfInBounds_toArray, List.set_cons_zero, List.set_cons_succ, List.getElem_toArray, List.getElem_cons_zero, List.getElem_cons_succ, Array.getInternal_eq_getElem]
      refine wpAnyH_take (i := 6) (v := ?_) rfl (by kernel_rfl) (by kernel_rfl) (by kernel_rfl) (fun _ _ _ h => h) (Or.inl ⟨by rfl, ?_⟩) hHeld ?_
      rotate_left
      · intro w_ hSw; (try dsimp only at hSw); go_simp; try with_reducible rfl
      simp only [Act.put, List.setIfInBounds_toArray, List.set_cons_zero, List.set_cons_succ, List.getElem_toArray, List.getElem_cons_zero, List.getElem_cons_succ, Array.getInternal_eq_getElem]
      refine wpAnyH_take (i := 8) (v := ?_) rfl (by kernel_rfl) (by kernel_rfl) (by kernel_rfl) (fun _ _ _ h => h) (Or.inl ⟨by rfl, ?_⟩) hHeld ?_
      rotate_left
      · intro w_ hSw; (try dsimp only at hSw); go_simp; try with_reducible rfl
      simp only [Act.put, List.setIfInBounds_toArray, List.set_cons_zero, List.set_cons_succ, List.getElem_toArray, List.getElem_cons_zero, List.getElem_cons_succ, Array.getInternal_eq_getElem]
      refine wpAnyH_take (i := 9) (v := ?_) rfl (by kernel_rfl) (by kernel_rfl) (by kernel_rfl) (fun _ _ _ h => h) (Or.inl ⟨by rfl, ?_⟩) hHeld ?_
      rotate_left
      · intro w_ hSw; (try dsimp only at hSw); go_simp; try with_reducible rfl
      simp only [Act.put, List.setIfInBounds_toArray, List.set_cons_zero, List.set_cons_succ, List.getElem_toArray, List.getElem_cons_zero, List.getElem_cons_succ, Array.getInternal_eq_getElem]
      refine wpAnyH_ready (rs := [1]) (by kernel_rfl) (by simp) ?_
      refine AllReadyH.cons rfl (fun K hK => ?_) AllReadyH.nil
      simp only [List.getElem_toArray, List.getElem_cons_zero, List.getElem_cons_succ, Array.getInternal_eq_getElem]
      go_simp
      go_at_call 52; (with_reducible refine (HSE.out _ (by repeat (first | exact Below.refl _ _ | apply below_alloc | apply below_drew1 | apply pw_below_drewN))).mono ?_); rintro e w6 ⟨rfl, hb_⟩; have Hw6 := Aside0.mk (show Below w5.heap.size w5 w6 from grew_trans (by repeat (first | exact Below.refl _ _ | apply below_alloc | apply below_drew1 | apply pw_below_drewN)) hb_); clear hb_
      go_wp2_with fail
      clear hHeld
      refine hK.out _ _ (by (try dsimp only); (refine HKP.out _ ?_; repeat (with_reducible first | exact Hw8.out | exact Hw7.out | exact Hw6.out | exact Below.refl _ _ | refine below_alloc ?_ _ | refine below_drew1 ?_ | refine pw_below_drewN ?_ _))) (fun hHeld => ?_)
      clear hK K
      (try simp only [Act.put, List.setIfInBounds_toArray, List.set_cons_zero, List.set_cons_succ, List.getElem_toArray, List.getElem_cons_zero, List.getElem_cons_succ, Array.getInternal_eq_getElem])
      refine wpAnyH_take (i := 7) (v := ?_) rfl (by kernel_rfl) (by kernel_rfl) (by kernel_rfl) (fun _ _ _ h => h) (Or.inl ⟨by rfl, ?_⟩) hHeld ?_
      rotate_left
      · intro w_ hSw; (try dsimp only at hSw); go_simp; try with_reducible rfl
      simp only [Act.put, List.setIfInBounds_toArray, List.set_cons_zero, List.set_cons_succ, List.getElem_toArray, List.getElem_cons_zero, List.getElem_cons_succ, Array.getInternal_eq_getElem]
      refine wpAnyH_take (i := 10) (v := ?_) rfl (by kernel_rfl) (by kernel_rfl) (by kernel_rfl) (fun _ _ _ h => h) (Or.inl ⟨by rfl, ?_⟩) hHeld ?_
      rotate_left
      · intro w_ hSw; (try dsimp only at hSw); go_simp; try with_reducible rfl
      simp only [Act.put, List.setIfInBounds_toArray, List.set_cons_zero, List.set_cons_succ, List.getElem_toArray, List.getElem_cons_zero, List.getElem_cons_succ, Array.getInternal_eq_getElem]
      refine wpAnyH_take (i := 11) (v := ?_) rfl (by kernel_rfl) (by kernel_rfl) (by kernel_rfl) (fun _ _ _ h => h) (Or.inl ⟨by rfl, ?_⟩) hHeld ?_
      rotate_left
      · intro w_ hSw; (try dsimp only at hSw); go_simp; try with_reducible rfl
      simp only [Act.put, List.setIfInBounds_toArray, List.set_cons_zero, List.set_cons_succ, List.getElem_toArray, List.getElem_cons_zero, List.getElem_cons_succ, Array.getInternal_eq_getElem]
      refine wpAnyH_take (i := 12) (v := ?_) rfl (by kernel_rfl) (by kernel_rfl) (by kernel_rfl) (fun _ _ _ h => h) (Or.inl ⟨by rfl, ?_⟩) hHeld ?_
      rotate_left
      · intro w_ hSw; (try dsimp only at hSw); go_simp; try with_reducible rfl
      simp only [Act.put, List.setIfInBounds_toArray, List.set_cons_zero, List.set_cons_succ, List.getElem_toArray, List.getElem_cons_zero, List.getElem_cons_succ, Array.getInternal_eq_getElem]
      refine wpAnyH_take (i := 13) (v := ?_) rfl (by kernel_rfl) (by kernel_rfl) (by kernel_rfl) (fun _ _ _ h => h) (Or.inl ⟨by rfl, ?_⟩) hHeld ?_
      rotate_left
      · intro w_ hSw; (try dsimp only at hSw); go_simp; try with_reducible rfl
      simp only [Act.put, List.setIfInBounds_toArray, List.set_cons_zero, List.set_cons_succ, List.getElem_toArray, List.getElem_cons_zero, List.getElem_cons_succ, Array.getInternal_eq_getElem]
      refine wpAnyH_take (i := 15) (v := ?_) rfl (by kernel_rfl) (by kernel_rfl) (by kernel_rfl) (fun _ _ _ h => h) (Or.inl ⟨by rfl, ?_⟩) hHeld ?_
      rotate_left
      · intro w_ hSw; (try dsimp only at hSw); go_simp; try with_reducible rfl
      simp only [Act.put, List.setIfInBounds_toArray, List.set_cons_zero, List.set_cons_succ, List.getElem_toArray, List.getElem_cons_zero, List.getElem_cons_succ, Array.getInternal_eq_getElem]
      refine wpAnyH_ready (rs := [14]) (by kernel_rfl) (by simp) ?_
      refine AllReadyH.cons rfl (fun K hK => ?_) AllReadyH.nil
      simp only [List.getElem_toArray, List.getElem_cons_zero, List.getElem_cons_succ, Array.getInternal_eq_getElem]
      go_simp
      go_at_call 53; (with_reducible refine (HBY.out _ (grew_trans Hw6.out (by repeat (first | exact Below.refl _ _ | apply below_alloc | apply below_drew1 | apply pw_below_drewN)))).mono ?_); rintro e w7 ⟨rfl, hb_⟩; have Hw7 := Aside0.mk (show Below w5.heap.size w5 w7 from grew_trans (grew_trans Hw6.out (by repeat (first | exact Below.refl _ _ | apply below_alloc | apply below_drew1 | apply pw_below_drewN))) hb_); clear hb_
      go_wp2_with fail
      clear hHeld
      refine hK.out _ _ (by (try dsimp only); (refine HKP.out _ ?_; repeat (with_reducible first | exact Hw8.out | exact Hw7.out | exact Hw6.out | exact Below.refl _ _ | refine below_alloc ?_ _ | refine below_drew1 ?_ | refine pw_below_drewN ?_ _))) (fun hHeld => ?_)
      clear hK K
      (try simp only [Act.put, List.setIfInBounds_toArray, List.set_cons_zero, List.set_cons_succ, List.getElem_toArray, List.getElem_cons_zero, List.getElem_cons_succ, Array.getInternal_eq_getElem])
      refine wpAnyH_ready (rs := [16]) (by kernel_rfl) (by simp) ?_
      refine AllReadyH.cons rfl (fun K hK => ?_) AllReadyH.nil
      simp only [List.getElem_toArray, List.getElem_cons_zero, List.getElem_cons_succ, Array.getInternal_eq_getElem]
      go_simp
      go_at_call 54; (with_reducible refine (HTO.out _ (grew_trans Hw7.out (by repeat (first | exact Below.refl _ _ | apply below_alloc | apply below_drew1 | apply pw_below_drewN)))).mono ?_); rintro e w8 ⟨rfl, hb_⟩; have Hw8 := Aside0.mk (show Below w5.heap.size w5 w8 from grew_trans (grew_trans Hw7.out (by repeat (first | exact Below.refl _ _ | apply below_alloc | apply below_drew1 | apply pw_below_drewN))) hb_); clear hb_
      go_wp2_with fail
      clear hHeld
      refine hK.out _ _ (by (try dsimp only); (refine HKP.out _ ?_; repeat (with_reducible first | exact Hw8.out | exact Hw7.out | exact Hw6.out | exact Below.refl _ _ | refine below_alloc ?_ _ | refine below_drew1 ?_ | refine pw_below_drewN ?_ _))) (fun hHeld => ?_)
      clear hK K
      (try simp only [Act.put, List.setIfInBounds_toArray, List.set_cons_zero, List.set_cons_succ, List.getElem_toArray, List.getElem_cons_zero, List.getElem_cons_succ, Array.getInternal_eq_getElem])
      refine wpAnyH_take (i := 17) (v := ?_) rfl (by kernel_rfl) (by kernel_rfl) (by kernel_rfl) (fun _ _ _ h => h) (Or.inl ⟨by rfl, ?_⟩) hHeld ?_
      rotate_left
      · intro w_ hSw; (try dsimp only at hSw); go_simp; try with_reducible rfl
      simp only [Act.put, List.setIfInBounds_toArray, List.set_cons_zero, List.set_cons_succ, List.getElem_toArray, List.getElem_cons_zero, List.getElem_cons_succ, Array.getInternal_eq_getElem]
      refine wpAnyH_take (i := 18) (v := ?_) rfl (by kernel_rfl) (by kernel_rfl) (by kernel_rfl) (fun _ _ _ h => h) (Or.inl ⟨by rfl, ?_⟩) hHeld ?_
      rotate_left
      · intro w_ hSw; (try dsimp only at hSw); go_simp; try with_reducible rfl
      simp only [Act.put, List.setIfInBounds_toArray, List.set_cons_zero, List.set_cons_succ, List.getElem_toArray, List.getElem_cons_zero, List.getElem_cons_succ, Array.getInternal_eq_getElem]
      refine wpAnyH_take (i := 19) (v := ?_) rfl (by kernel_rfl) (by kernel_rfl) (by kernel_rfl) (fun _ _ _ h => h) (Or.inl ⟨by rfl, ?_⟩) hHeld ?_
      rotate_left
      · intro w_ hSw; (try dsimp only at hSw); go_simp; try with_reducible rfl
      simp only [Act.put, List.setIfInBounds_toArray, List.set_cons_zero, List.set_cons_succ, List.getElem_toArray, List.getElem_cons_zero, List.getElem_cons_succ, Array.getInternal_eq_getElem]
      refine wpAnyH_done (by kernel_rfl) ?_ _
      clear hw1 hw2 hw3
      go_wp2
      go_ret
      rw [HF.out]
      first | refine ⟨Av, cv, Ao, co, rfl, ?_⟩ | refine ⟨rfl, Av, cv, Ao, co, ?_⟩
      exact ⟨blk_below BK.out (grew_trans HB5.out Hw8.out), Kd.C_below HRC.out (grew_trans HB5.out Hw8.out), Kd.C_below HC.out (grew_trans HB5.out Hw8.out), hco, grew_trans HB.out (grew_trans HB5.out Hw8.out)⟩
    case pos =>
      have htz : ¬ (20000 : Int) < (totalB x.2 : Int) + ((tots ss : Nat) : Int) + (totalB ls : Int) := by clear hw1 hw2 hw3; omega
      have HF := Aside0.mk (show ingF x.2 t ss = ((ss, x.2 ++ ls), 0) from by unfold ingF room; rw [HLS.out, decide_eq_true hlen, decide_eq_true htot]; rfl)
      clear htot
      go_wp2_with fail
      refine wp_region_held_drew (S := (fun W_ => W_.cell? ⟨gs, 0, none⟩ = some (.slice Av ss.length cv) ∧ W_.cell? ⟨gs, 1, none⟩ = some (.slice Ao x.2.length co))) (by kernel_rfl) (by (try dsimp only); (refine HKP.out _ ?_; repeat (with_reducible first | exact Hw8.out | exact Hw7.out | exact Hw6.out | exact Below.refl _ _ | refine below_alloc ?_ _ | refine below_drew1 ?_ | refine pw_below_drewN ?_ _))) (fun hHeld => ?_)
      refine wpAnyH_take (i := 0) (v := ?_) rfl (by kernel_rfl) (by kernel_rfl) (by kernel_rfl) (fun _ _ _ h => h) (Or.inl ⟨by rfl, ?_⟩) hHeld ?_
      rotate_left
      · intro w_ hSw; (try dsimp only at hSw); go_simp; try with_reducible rfl
      simp only [Act.put, List.setIfInBounds_toArray, List.set_cons_zero, List.set_cons_succ, List.getElem_toArray, List.getElem_cons_zero, List.getElem_cons_succ, Array.getInternal_eq_getElem]
      refine wpAnyH_take (i := 2) (v := ?_) rfl (by kernel_rfl) (by kernel_rfl) (by kernel_rfl) (fun _ _ _ h => h) (Or.inl ⟨by rfl, ?_⟩) hHeld ?_
      rotate_left
      · intro w_ hSw; (try dsimp only at hSw); go_simp; try with_reducible rfl
      simp only [Act.put, List.setIfInBounds_toArray, List.set_cons_zero, List.set_cons_succ, List.getElem_toArray, List.getElem_cons_zero, List.getElem_cons_succ, Array.getInternal_eq_getElem]
      refine wpAnyH_take (i := 3) (v := ?_) rfl (by kernel_rfl) (by kernel_rfl) (by kernel_rfl) (fun _ _ _ h => h) (Or.inl ⟨by rfl, ?_⟩) hHeld ?_
      rotate_left
      · intro w_ hSw; (try dsimp only at hSw); go_simp; try with_reducible rfl
      simp only [Act.put, List.setIfInBounds_toArray, List.set_cons_zero, List.set_cons_succ, List.getElem_toArray, List.getElem_cons_zero, List.getElem_cons_succ, Array.getInternal_eq_getElem]
      refine wpAnyH_take (i := 4) (v := ?_) rfl (by kernel_rfl) (by kernel_rfl) (by kernel_rfl) (fun _ _ _ h => h) (Or.inl ⟨by rfl, ?_⟩) hHeld ?_
      rotate_left
      · intro w_ hSw; (try dsimp only at hSw); go_simp; try with_reducible rfl
      simp only [Act.put, List.setIfInBounds_toArray, List.set_cons_zero, List.set_cons_succ, List.getElem_toArray, List.getElem_cons_zero, List.getElem_cons_succ, Array.getInternal_eq_getElem]
      refine wpAnyH_take (i := 5) (v := ?_) rfl (by kernel_rfl) (by kernel_rfl) (by kernel_rfl) (fun _ _ _ h => h) (Or.inl ⟨by rfl, ?_⟩) hHeld ?_
      rotate_left
      · intro w_ hSw; (try dsimp only at hSw); go_simp; try with_reducible rfl
      simp only [Act.put, List.setIfInBounds_toArray, List.set_cons_zero, List.set_cons_succ, List.getElem_toArray, List.getElem_cons_zero, List.getElem_cons_succ, Array.getInternal_eq_getElem]
      refine wpAnyH_take (i := 6) (v := ?_) rfl (by kernel_rfl) (by kernel_rfl) (by kernel_rfl) (fun _ _ _ h => h) (Or.inl ⟨by rfl, ?_⟩) hHeld ?_
      rotate_left
      · intro w_ hSw; (try dsimp only at hSw); go_simp; try with_reducible rfl
      simp only [Act.put, List.setIfInBounds_toArray, List.set_cons_zero, List.set_cons_succ, List.getElem_toArray, List.getElem_cons_zero, List.getElem_cons_succ, Array.getInternal_eq_getElem]
      refine wpAnyH_take (i := 8) (v := ?_) rfl (by kernel_rfl) (by kernel_rfl) (by kernel_rfl) (fun _ _ _ h => h) (Or.inl ⟨by rfl, ?_⟩) hHeld ?_
      rotate_left
      · intro w_ hSw; (try dsimp only at hSw); go_simp; try with_reducible rfl
      simp only [Act.put, List.setIfInBounds_toArray, List.set_cons_zero, List.set_cons_succ, List.getElem_toArray, List.getElem_cons_zero, List.getElem_cons_succ, Array.getInternal_eq_getElem]
      refine wpAnyH_take (i := 9) (v := ?_) rfl (by kernel_rfl) (by kernel_rfl) (by kernel_rfl) (fun _ _ _ h => h) (Or.inl ⟨by rfl, ?_⟩) hHeld ?_
      rotate_left
      · intro w_ hSw; (try dsimp only at hSw); go_simp; try with_reducible rfl
      simp only [Act.put, List.setIfInBounds_toArray, List.set_cons_zero, List.set_cons_succ, List.getElem_toArray, List.getElem_cons_zero, List.getElem_cons_succ, Array.getInternal_eq_getElem]
      refine wpAnyH_ready (rs := [1]) (by kernel_rfl) (by simp) ?_
      refine AllReadyH.cons rfl (fun K hK => ?_) AllReadyH.nil
      simp only [List.getElem_toArray, List.getElem_cons_zero, List.getElem_cons_succ, Array.getInternal_eq_getElem]
      go_simp
      go_at_call 52; (with_reducible refine (HSE.out _ (by repeat (first | exact Below.refl _ _ | apply below_alloc | apply below_drew1 | apply pw_below_drewN))).mono ?_); rintro e w6 ⟨rfl, hb_⟩; have Hw6 := Aside0.mk (show Below w5.heap.size w5 w6 from grew_trans (by repeat (first | exact Below.refl _ _ | apply below_alloc | apply below_drew1 | apply pw_below_drewN)) hb_); clear hb_
      go_wp2_with fail
      clear hHeld
      refine hK.out _ _ (by (try dsimp only); (refine HKP.out _ ?_; repeat (with_reducible first | exact Hw8.out | exact Hw7.out | exact Hw6.out | exact Below.refl _ _ | refine below_alloc ?_ _ | refine below_drew1 ?_ | refine pw_below_drewN ?_ _))) (fun hHeld => ?_)
      clear hK K
      (try simp only [Act.put, List.setIfInBounds_toArray, List.set_cons_zero, List.set_cons_succ, List.getElem_toArray, List.getElem_cons_zero, List.getElem_cons_succ, Array.getInternal_eq_getElem])
      refine wpAnyH_take (i := 7) (v := ?_) rfl (by kernel_rfl) (by kernel_rfl) (by kernel_rfl) (fun _ _ _ h => h) (Or.inl ⟨by rfl, ?_⟩) hHeld ?_
      rotate_left
      · intro w_ hSw; (try dsimp only at hSw); go_simp; try with_reducible rfl
      simp only [Act.put, List.setIfInBounds_toArray, List.set_cons_zero, List.set_cons_succ, List.getElem_toArray, List.getElem_cons_zero, List.getElem_cons_succ, Array.getInternal_eq_getElem]
      refine wpAnyH_take (i := 10) (v := ?_) rfl (by kernel_rfl) (by kernel_rfl) (by kernel_rfl) (fun _ _ _ h => h) (Or.inl ⟨by rfl, ?_⟩) hHeld ?_
      rotate_left
      · intro w_ hSw; (try dsimp only at hSw); go_simp; try with_reducible rfl
      simp only [Act.put, List.setIfInBounds_toArray, List.set_cons_zero, List.set_cons_succ, List.getElem_toArray, List.getElem_cons_zero, List.getElem_cons_succ, Array.getInternal_eq_getElem]
      refine wpAnyH_take (i := 11) (v := ?_) rfl (by kernel_rfl) (by kernel_rfl) (by kernel_rfl) (fun _ _ _ h => h) (Or.inl ⟨by rfl, ?_⟩) hHeld ?_
      rotate_left
      · intro w_ hSw; (try dsimp only at hSw); go_simp; try with_reducible rfl
      simp only [Act.put, List.setIfInBounds_toArray, List.set_cons_zero, List.set_cons_succ, List.getElem_toArray, List.getElem_cons_zero, List.getElem_cons_succ, Array.getInternal_eq_getElem]
      refine wpAnyH_take (i := 12) (v := ?_) rfl (by kernel_rfl) (by kernel_rfl) (by kernel_rfl) (fun _ _ _ h => h) (Or.inl ⟨by rfl, ?_⟩) hHeld ?_
      rotate_left
      · intro w_ hSw; (try dsimp only at hSw); go_simp; try with_reducible rfl
      simp only [Act.put, List.setIfInBounds_toArray, List.set_cons_zero, List.set_cons_succ, List.getElem_toArray, List.getElem_cons_zero, List.getElem_cons_succ, Array.getInternal_eq_getElem]
      refine wpAnyH_take (i := 13) (v := ?_) rfl (by kernel_rfl) (by kernel_rfl) (by kernel_rfl) (fun _ _ _ h => h) (Or.inl ⟨by rfl, ?_⟩) hHeld ?_
      rotate_left
      · intro w_ hSw; (try dsimp only at hSw); go_simp; try with_reducible rfl
      simp only [Act.put, List.setIfInBounds_toArray, List.set_cons_zero, List.set_cons_succ, List.getElem_toArray, List.getElem_cons_zero, List.getElem_cons_succ, Array.getInternal_eq_getElem]
      refine wpAnyH_take (i := 15) (v := ?_) rfl (by kernel_rfl) (by kernel_rfl) (by kernel_rfl) (fun _ _ _ h => h) (Or.inl ⟨by rfl, ?_⟩) hHeld ?_
      rotate_left
      · intro w_ hSw; (try dsimp only at hSw); go_simp; try with_reducible rfl
      simp only [Act.put, List.setIfInBounds_toArray, List.set_cons_zero, List.set_cons_succ, List.getElem_toArray, List.getElem_cons_zero, List.getElem_cons_succ, Array.getInternal_eq_getElem]
      refine wpAnyH_ready (rs := [14]) (by kernel_rfl) (by simp) ?_
      refine AllReadyH.cons rfl (fun K hK => ?_) AllReadyH.nil
      simp only [List.getElem_toArray, List.getElem_cons_zero, List.getElem_cons_succ, Array.getInternal_eq_getElem]
      go_simp
      go_at_call 53; (with_reducible refine (HBY.out _ (grew_trans Hw6.out (by repeat (first | exact Below.refl _ _ | apply below_alloc | apply below_drew1 | apply pw_below_drewN)))).mono ?_); rintro e w7 ⟨rfl, hb_⟩; have Hw7 := Aside0.mk (show Below w5.heap.size w5 w7 from grew_trans (grew_trans Hw6.out (by repeat (first | exact Below.refl _ _ | apply below_alloc | apply below_drew1 | apply pw_below_drewN))) hb_); clear hb_
      go_wp2_with fail
      clear hHeld
      refine hK.out _ _ (by (try dsimp only); (refine HKP.out _ ?_; repeat (with_reducible first | exact Hw8.out | exact Hw7.out | exact Hw6.out | exact Below.refl _ _ | refine below_alloc ?_ _ | refine below_drew1 ?_ | refine pw_below_drewN ?_ _))) (fun hHeld => ?_)
      clear hK K
      (try simp only [Act.put, List.setIfInBounds_toArray, List.set_cons_zero, List.set_cons_succ, List.getElem_toArray, List.getElem_cons_zero, List.getElem_cons_succ, Array.getInternal_eq_getElem])
      refine wpAnyH_ready (rs := [16]) (by kernel_rfl) (by simp) ?_
      refine AllReadyH.cons rfl (fun K hK => ?_) AllReadyH.nil
      simp only [List.getElem_toArray, List.getElem_cons_zero, List.getElem_cons_succ, Array.getInternal_eq_getElem]
      go_simp
      go_at_call 54; (with_reducible refine (HTO.out _ (grew_trans Hw7.out (by repeat (first | exact Below.refl _ _ | apply below_alloc | apply below_drew1 | apply pw_below_drewN)))).mono ?_); rintro e w8 ⟨rfl, hb_⟩; have Hw8 := Aside0.mk (show Below w5.heap.size w5 w8 from grew_trans (grew_trans Hw7.out (by repeat (first | exact Below.refl _ _ | apply below_alloc | apply below_drew1 | apply pw_below_drewN))) hb_); clear hb_
      go_wp2_with fail
      clear hHeld
      refine hK.out _ _ (by (try dsimp only); (refine HKP.out _ ?_; repeat (with_reducible first | exact Hw8.out | exact Hw7.out | exact Hw6.out | exact Below.refl _ _ | refine below_alloc ?_ _ | refine below_drew1 ?_ | refine pw_below_drewN ?_ _))) (fun hHeld => ?_)
      clear hK K
      (try simp only [Act.put, List.setIfInBounds_toArray, List.set_cons_zero, List.set_cons_succ, List.getElem_toArray, List.getElem_cons_zero, List.getElem_cons_succ, Array.getInternal_eq_getElem])
      refine wpAnyH_take (i := 17) (v := ?_) rfl (by kernel_rfl) (by kernel_rfl) (by kernel_rfl) (fun _ _ _ h => h) (Or.inl ⟨by rfl, ?_⟩) hHeld ?_
      rotate_left
      · intro w_ hSw; (try dsimp only at hSw); go_simp; try with_reducible rfl
      simp only [Act.put, List.setIfInBounds_toArray, List.set_cons_zero, List.set_cons_succ, List.getElem_toArray, List.getElem_cons_zero, List.getElem_cons_succ, Array.getInternal_eq_getElem]
      refine wpAnyH_take (i := 18) (v := ?_) rfl (by kernel_rfl) (by kernel_rfl) (by kernel_rfl) (fun _ _ _ h => h) (Or.inl ⟨by rfl, ?_⟩) hHeld ?_
      rotate_left
      · intro w_ hSw; (try dsimp only at hSw); go_simp; try with_reducible rfl
      simp only [Act.put, List.setIfInBounds_toArray, List.set_cons_zero, List.set_cons_succ, List.getElem_toArray, List.getElem_cons_zero, List.getElem_cons_succ, Array.getInternal_eq_getElem]
      refine wpAnyH_take (i := 19) (v := ?_) rfl (by kernel_rfl) (by kernel_rfl) (by kernel_rfl) (fun _ _ _ h => h) (Or.inl ⟨by rfl, ?_⟩) hHeld ?_
      rotate_left
      · intro w_ hSw; (try dsimp only at hSw); go_simp; try with_reducible rfl
      simp only [Act.put, List.setIfInBounds_toArray, List.set_cons_zero, List.set_cons_succ, List.getElem_toArray, List.getElem_cons_zero, List.getElem_cons_succ, Array.getInternal_eq_getElem]
      refine wpAnyH_done (by kernel_rfl) ?_ _
      clear hw1 hw2 hw3 hld
      have BK8 := Aside0.mk (blk_below BK.out (grew_trans HB5.out Hw8.out))
      obtain ⟨⟨p0, q0⟩, ⟨p1, q1⟩⟩ := cells2 BK8.out
      have HS8 := Aside0.mk (show Kd.R kB 25 w8 w0.heap.size (fun k => N ≤ k ∧ k ≠ gs) (.slice Ao x.2.length co) x.2 from Kd.R_mono (Kd.R_below (Kd.S_R HS.out) (grew_trans HB5.out Hw8.out)) (fun k hk => ⟨hk, by have h1 : N ≤ k := hk; omega⟩))
      have HOL := Aside0.mk (fun k (h : (Value.slice Ao x.2.length co).ownBlock = some k) => Kd.S_lt HS.out k h)
      have HL8 := Aside0.mk (show ReadsRow (fun y cs => kB.M w8 w0.heap.size (fun k => W.heap.size ≤ k) y cs) 1 w8 A5 ls.length ls from by
        have h : Kd.S kB 25 w5 W.heap.size (fun k => W.heap.size ≤ k) (.slice A5 ls.length c5) ls := HelpBB.tBB.M_mono (fun k hk => hk.2.1) (HelpBB.tBB.M_bound HS5.out)
        obtain ⟨B, d, e, _, hr⟩ := OwnRow.reads (Kd.S_R (Kd.S_lower (Kd.S_below h Hw8.out) HB.out.size)).2
        obtain ⟨rfl, rfl⟩ : A5 = B ∧ c5 = d := by injection e with x1 x2 x3; exact ⟨x1, x3⟩
        exact hr.imp_ (Below.refl _ _) (fun y cs h => kB.M_mono (fun k hk => hk.1) h))
      have HB8 := Aside0.mk (show Below w0.heap.size w0 w8 from grew_trans HB.out (grew_trans HB5.out Hw8.out))
      have HZ8 := Aside0.mk (show W.heap.size ≤ w8.heap.size from (grew_trans HB5.out Hw8.out).size)
      go_wp2_with (at_builtin; refine Kd.R_append_rows kB (Rr := fun y cs => kB.M w8 w0.heap.size (fun k => W.heap.size ≤ k) y cs) (w0 := w0) w0.heap.size rfl (.tmp 32) (.tmp 33) 22 25 (.slice none 0 0) 24 rfl Tryz.underlying22 infoBB rfl Nat.zero_lt_one (by omega) (.slice Ao x.2.length co) x.2 ls A5 ls.length c5 (fun k => N ≤ k ∧ k ≠ gs) (fun k => W.heap.size ≤ k) rfl rfl HS8.out HL8.out (fun _ _ h => h) (fun k hk => ⟨by have h1 := NW.out; have h2 := GSN.out; have h3 : W.heap.size ≤ k := hk; exact ⟨by omega, by omega⟩, fun e => by have h1 := HOL.out k e.symm; have h3 : W.heap.size ≤ k := hk; omega⟩) (fun k hk => by have h1 := NW.out; have h2 := GSN.out; have h3 := HZ8.out; exact ⟨by omega, by omega⟩) HB8.out HB8.out.size (by omega) ?_; intro v9 w9 hO9 hB9 hg9 hat9; obtain ⟨A9, c9, e9⟩ := Kd.R_slice hO9; rw [List.length_append] at e9; subst e9; have HG9 := Aside0.mk hg9; have BK9 := Aside0.mk (blk_grown (g := gs) BK8.out hg9 (fun e => (HS8.out.1 gs e.symm).2 rfl)); obtain ⟨⟨r0, rf0⟩, ⟨r1, rf1⟩⟩ := cells2 BK9.out; have HO9 := Aside0.mk hO9; have HB9 := Aside0.mk hB9; clear hO9 hB9 hg9 hat9)
      go_ret
      rw [HF.out]
      have e : (x.2 ++ ls).length = x.2.length + ls.length := List.length_append ..
      obtain ⟨_, hc9, hC9⟩ := Kd.R_reads' (Kd.R_far HO9.out (p := ⟨gs, 1, none⟩) (fun k hk => hk.2) (.slice A9 (x.2.length + ls.length) c9))
      first | refine ⟨Av, cv, A9, c9, rfl, ?_⟩ | refine ⟨rfl, Av, cv, A9, c9, ?_⟩
      refine ⟨show _ = some (Obj.cells #[.slice Av ss.length cv, .slice A9 (x.2 ++ ls).length c9] 79 (0, 0)) from by rw [e]; exact blk_put (cs := #[.slice Av ss.length cv, .slice Ao x.2.length co]) BK9.out 1 _ rfl, (Kd.R_reads' (Kd.R_far (Kd.R_grown (Kd.R_below HR.out (grew_trans HB5.out Hw8.out)) HG9.out (fun k hk e => by have h1 := (HS8.out.1 k e.symm).1; have h2 := hk.2; omega)) (p := ⟨gs, 1, none⟩) (fun k hk => by have h1 := hk.1; show k ≠ gs; omega) (.slice A9 (x.2.length + ls.length) c9))).2.2, hC9, by show (x.2 ++ ls).length ≤ c9; rw [e]; exact hc9, below_set HB9.out hg0⟩
end Go.Proofs.YtmgmdnmfalepkaaGreat.Ing

namespace Go.Proofs.YtmgmdnmfalepkaaGreat.Ing
open Go.RowKit Go.Proofs.YtmgmdnmfalepkaaGreatW.PrintWords Go.Proofs.YtmgmdnmfalepkaaGreatW.PrintMore Go.Proofs.YtmgmdnmfalepkaaGreat.Kit Go.Proofs.YtmgmdnmfalepkaaGreat.PKit Go.Proofs.YtmgmdnmfalepkaaGreat.Ty Go.Proofs.YtmgmdnmfalepkaaGreat.PSeg Go.Proofs.YtmgmdnmfalepkaaGreat.PEnc Go.Proofs.YtmgmdnmfalepkaaGreat.PDec Go.Proofs.YtmgmdnmfalepkaaGreat.PSta Go.Proofs.YtmgmdnmfalepkaaGreat.HelpBB Go.Proofs.YtmgmdnmfalepkaaGreat.HelpSeg
open Go.Proofs.YtmgmdnmfalepkaaGreat.Build hiding code ans
open Go.Proofs.YtmgmdnmfalepkaaGreat.Sto Go.Proofs.YtmgmdnmfalepkaaGreat.PLines
set_option linter.unusedVariables false
set_option linter.unusedSimpArgs false
theorem cells1 {w : World} {g : Nat} {t : TypeId} {a0 : Value} (h : w.heap[g]? = some (.cells #[a0] t (0, 0))) : (w.cell? ⟨g, 0, none⟩ = some a0 ∧ w.frozen? ⟨g, 0, none⟩ = false) := ⟨(blk_cell h 0).trans rfl, blk_frozen h 0⟩
def ing_ (x : StaT) (t : List Int) : StaT × Int := match segsOf x with
  | none => (([], []), 4)
  | some ss => if room ss x.2 (lines t) = true then ((x.1, x.2 ++ lines t), 0) else (x, 6)
theorem ing_chg (x : StaT) (t : List Int) : ing_ x t = chg x (ingF x.2 t) := by
  unfold ing_ chg
  cases h : segsOf x with
  | none => rfl
  | some ss =>
    have hc := chain_codes (segsOf_some h).1
    show (if room ss x.2 (lines t) = true then ((x.1, x.2 ++ lines t), 0) else (x, 6)) = (((ingF x.2 t ss).1.1.map code, (ingF x.2 t ss).1.2), (ingF x.2 t ss).2)
    unfold ingF
    cases room ss x.2 (lines t) with
    | true => rw [if_pos rfl, if_pos rfl]; simp only; rw [hc]
    | false => rw [if_neg (by simp), if_neg (by simp)]; simp only; rw [hc]
theorem room_small {ss : List SegT} {op ls : List (List Int)} (h : room ss op ls = true) : op.length + ls.length ≤ 1000 ∧ totalB op + totalB ls ≤ 20000 := by
  unfold room at h
  simp only [Bool.and_eq_true, decide_eq_true_eq] at h
  omega
theorem ing_good (x : StaT) (t : List Int) (hb0 : Bytes x.1) (s1 : smallBB x.2) (ss : List SegT) (h : segsOf x = some ss) : (∀ s ∈ (ingF x.2 t ss).1.1, Sto.Good s) ∧ (ingF x.2 t ss).1.1.length ≤ 1048576 ∧ smallBB (ingF x.2 t ss).1.2 := by
  have hg := chain_good (segsOf_some h).1 hb0
  obtain ⟨n1, n2, n3⟩ := chain_len0 (segsOf_some h).1
  unfold ingF
  cases hr : room ss x.2 (lines t) with
  | false =>
    rw [if_neg (by simp)]
    exact ⟨hg, by show ss.length ≤ _; omega, s1⟩
  | true =>
    rw [if_pos rfl]
    obtain ⟨r1, r2⟩ := room_small hr
    exact ⟨hg, by show ss.length ≤ _; omega, by show (x.2 ++ lines t).length + totalB (x.2 ++ lines t) ≤ 1048576; rw [List.length_append, total_append]; omega⟩
set_option maxRecDepth 100000 in
set_option maxHeartbeats 4000000 in
theorem ingest_step (x : StaT) (t : List Int) (At : Option Addr) (ct gt : Nat) (w w0 : World) (hb0 : Bytes x.1) (s1 : smallBB x.2) (hbt : ∀ y ∈ t, 0 ≤ y ∧ y ≤ 255) (hlt : t.length ≤ 1048576) (hct : t.length ≤ ct) (htx : Kd.C (Kd.int .u8) w At t.length t) (hgt : w.heap[gt]? = some (.cells #[.slice At t.length ct] 25 (0, 0))) (hw0 : Below w.heap.size w w0) :
    StepOk 28 #[.pointer (some ⟨gt, 0, none⟩)] x (ingF x.2 t) w0 := by
  intro W gs N Av Ao cv co ss hss hgood hB hg0 hgN hNW hk hR hS
  have hBW := grew_trans hw0 hB
  have hcall := ingest_calls x t At ct w0 hb0 s1 hbt hlt hct W gs N Av Ao cv co ss hss hgood hB hg0 hgN hNW hk hR hS (Kd.C_below htx hBW)
  have hc0 : W.cell? ⟨gt, 0, none⟩ = some (.slice At t.length ct) := (blk_cell (blk_below hgt hBW) 0).trans rfl
  clear hss hgood hB hg0 hgN hNW hk hR hS hBW htx hgt hw0
  show Calls Tryz.prog 28 #[.pointer (some ⟨gs, 0, none⟩), .pointer (some ⟨gt, 0, none⟩)] W _
  generalize ingF x.2 t ss = z at hcall ⊢
  go_enter Tryz.func28, Tryz.ntmps28
  go_wp2_with (go_at_call 29; refine hcall.mono ?_; rintro e w' ⟨Bv, dv, Bo, do_, rfl, h1, h2, h3, h4, h5⟩; have H1 := Aside0.mk h1; have H2 := Aside0.mk h2; have H3 := Aside0.mk h3; have H4 := Aside0.mk h4; have H5 := Aside0.mk h5; clear h1 h2 h3 h4 h5)
  go_ret
  first | exact ⟨Bv, dv, Bo, do_, rfl, H1.out, H2.out, H3.out, H4.out, H5.out⟩ | exact ⟨rfl, Bv, dv, Bo, do_, H1.out, H2.out, H3.out, H4.out, H5.out⟩
set_option maxRecDepth 100000 in
set_option maxHeartbeats 4000000 in
theorem implC (x0 : StaT) (x1 : List Int) (v0 v1 : Value) (w : World) (h0 : HelpSta.tSta.K w x0 v0) (h1 : HelpB.tB.K w x1 v1) (s0 : HelpSta.smallSta x0) (s1 : HelpB.smallB x1) (y0 : Bytes x0.1) (y1 : Bytes x0.2) (y2 : ∀ x ∈ x1, 0 ≤ x ∧ x ≤ 255) :
    Calls Tryz.prog 10 #[v0, v1] w fun e w' => ∃ v', e = .returned (.tuple #[v', .int .i64 (ing_ x0 x1).2]) ∧ HelpSta.tSta.M w' w.heap.size (fun _ => True) (ing_ x0 x1).1 v' ∧ Grew w w' := by
  have huT := Tryz.underlying27
  obtain ⟨q0, q1⟩ := HelpSta.small_parts s0
  obtain ⟨l, rfl, u0, r0, rfl, ⟨A0, c0, rfl, l0, k0⟩, u1, rfl, ⟨A1, c1, rfl, l1, k1⟩⟩ := h0
  obtain ⟨At, ct, rfl, lt, kt⟩ := h1
  have HCH := Aside0.mk (fun (W : World) (hW : Below w.heap.size w W) (gt : Nat) (hgt : W.heap[gt]? = some (.cells #[.slice At x1.length ct] 25 (0, 0))) => changed_calls 28 #[.pointer (some ⟨gt, 0, none⟩)] (enters_of Tryz.func28 (by kernel_rfl) rfl) x0 (ingF x0.2 x1) A0 A1 c0 c1 W (Kd.C_below k0 hW) l0 (Kd.C_below k1 hW) l1 y0 y1 q0 q1 (fun w0 hw0 => ingest_step x0 x1 At ct gt W w0 y0 q1 y2 s1 lt (Kd.C_below kt hW) hgt hw0) (fun ss h => ing_good x0 x1 y0 q1 ss h))
  have HSE := Aside0.mk (ing_chg x0 x1)
  clear k0 k1 kt y0 y1 y2 s0 q0 q1 s1
  show Calls Tryz.prog 10 #[.agg #[.slice A0 x0.1.length c0, .slice A1 x0.2.length c1], .slice At x1.length ct] w _
  rw [HSE.out]
  clear HSE
  generalize chg x0 (ingF x0.2 x1) = z at HCH ⊢
  obtain ⟨⟨z1, z2⟩, cd⟩ := z
  go_enter Tryz.func10, Tryz.ntmps10
  go_wp2_with (first | ((with_reducible refine gate_dst (N := 2) rfl ?_); refine box_event ?hg (N := 2) ?hd (cs := #[.slice A0 x0.1.length c0, .slice A1 x0.2.length c1]) (t := 27) ?hr ?_; (case hd => rfl); (case hg => rfl); (case hr => first | (go_simp; done) | (go_simp; rfl)); intro gx hg_ w1 hbx hbb; have BKgx := Aside0.mk hbx; have GEgx := Aside0.mk (show w.heap.size ≤ gx from Nat.le_of_eq hg_.symm); have GLgx := Aside0.mk (blk_lt hbx); have HBw1 := Aside0.mk hbb; clear hg_ hbb; obtain ⟨⟨hgxc0, hgxf0⟩, ⟨hgxc1, hgxf1⟩⟩ := cells2 hbx; clear hbx) | ((with_reducible refine gate_dst (N := 3) rfl ?_); refine box_event ?hg (N := 3) ?hd (cs := #[.slice At x1.length ct]) (t := 25) ?hr ?_; (case hd => rfl); (case hg => rfl); (case hr => first | (go_simp; done) | (go_simp; rfl)); intro gt hg_ w2 hbx hbb; have BKgt := Aside0.mk hbx; have GEgt := Aside0.mk (show w1.heap.size ≤ gt from Nat.le_of_eq hg_.symm); have GLgt := Aside0.mk (blk_lt hbx); have HBw2 := Aside0.mk hbb; clear hg_ hbb; obtain ⟨hgtc0, hgtf0⟩ := cells1 hbx; clear hbx; have n_ := Aside0.mk (blk_below BKgx.out HBw2.out); clear BKgx; have BKgx := n_; clear n_; clear hgxc0 hgxf0 hgxc1 hgxf1) | ((with_reducible refine gate_dst (N := 4) rfl ?_); refine box_event ?hg (N := 4) ?hd (cs := #[.slice none 0 0, .slice none 0 0]) (t := 27) ?hr ?_; (case hd => rfl); (case hg => rfl); (case hr => first | (go_simp; done) | (go_simp; rfl)); intro gr hg_ w3 hbx hbb; have BKgr := Aside0.mk hbx; have GEgr := Aside0.mk (show w2.heap.size ≤ gr from Nat.le_of_eq hg_.symm); have GLgr := Aside0.mk (blk_lt hbx); have HBw3 := Aside0.mk hbb; clear hg_ hbb; obtain ⟨⟨hgrc0, hgrf0⟩, ⟨hgrc1, hgrf1⟩⟩ := cells2 hbx; clear hbx; have n_ := Aside0.mk (blk_below BKgx.out HBw3.out); clear BKgx; have BKgx := n_; clear n_; have n_ := Aside0.mk (blk_below BKgt.out HBw3.out); clear BKgt; have BKgt := n_; clear n_; clear hgtc0 hgtf0; obtain ⟨⟨pc0, pf0⟩, ⟨pc1, pf1⟩⟩ := cells2 BKgx.out; obtain ⟨qc0, qf0⟩ := cells1 BKgt.out))
  have HB2 := Aside0.mk (show Below w.heap.size w w3 from grew_trans (grew_trans HBw1.out HBw2.out) HBw3.out)
  have GER := Aside0.mk (show w.heap.size ≤ gr from Nat.le_trans (grew_trans HBw1.out HBw2.out).size GEgr.out)
  clear hgrc0 hgrf0 hgrc1 hgrf1 pc0 pf0 pc1 pf1
  go_at_call 27
  refine (HCH.out _ HB2.out gt BKgt.out).mono ?_
  rintro e w4 ⟨v3, rfl, hM3, hb3⟩
  obtain ⟨E0, e0, E1, e1, ev⟩ := HelpSta.form (HelpSta.tSta.K_of_M hM3)
  subst ev
  have HM3 := Aside0.mk hM3
  have BK3 := Aside0.mk (blk_below BKgr.out hb3)
  have HB3 := Aside0.mk (show Below w.heap.size w w4 from grew_trans HB2.out hb3)
  have GLR := Aside0.mk (blk_lt BKgr.out)
  obtain ⟨⟨r0, rf0⟩, ⟨r1, rf1⟩⟩ := cells2 BK3.out
  clear hb3 hM3
  go_wp2
  refine bodyPost_ret (results_ct rfl _ _ gr 27 #[.slice E0 z1.length e0, .slice E1 z2.length e1] (0, 0) _ rfl (by (with_reducible repeat (first | refine blk_drewN ?_ _ | refine blk_drew ?_ | refine blk_alloc ?_ _)); refine blk_put (cs := #[.slice E0 z1.length e0, .slice none 0 0]) ?_ 1 _ rfl; (with_reducible repeat (first | refine blk_drewN ?_ _ | refine blk_drew ?_ | refine blk_alloc ?_ _)); refine blk_put (cs := #[.slice none 0 0, .slice none 0 0]) ?_ 0 _ rfl; (with_reducible repeat (first | refine blk_drewN ?_ _ | refine blk_drew ?_ | refine blk_alloc ?_ _)); exact BK3.out) Tryz.underlying27 rfl (by kernel_rfl)) rfl ?_
  refine ⟨_, rfl, ?_, below_set (below_set (HB3.out) GER.out) GER.out⟩
  exact HelpSta.tSta.M_mono (fun _ _ => trivial) ((Ty.M_set (T := HelpSta.tSta) (Ty.M_set (T := HelpSta.tSta) (HelpSta.tSta.M_lower HB2.out.size (HelpSta.tSta.M_bound HM3.out)) (fun k hk e => by have h1 := hk.2.1; have h2 := GLR.out; omega) _) (fun k hk e => by have h1 := hk.2.1; have h2 := GLR.out; omega) _))
theorem sml (a b : List (List Int)) (h1 : a.length ≤ 1099511627776) (h2 : b.length ≤ 1099511627776) (h3 : totalB a + totalB b ≤ 1099511627000) : HelpSta.bdSta (a, b) ∧ HelpSta.cntSta (a, b) ≤ 1099511627000 :=
  ⟨⟨⟨h1, by show totalB a ≤ _; omega⟩, ⟨h2, by show totalB b ≤ _; omega⟩⟩, h3⟩
theorem ans_small (x0 : StaT) (x1 : List Int) (s0 : HelpSta.smallSta x0) (s1 : HelpB.smallB x1) (y0 : Bytes x0.1) (y1 : Bytes x0.2) (y2 : ∀ x ∈ x1, 0 ≤ x ∧ x ≤ 255) : HelpSta.bdSta (ing_ x0 x1).1 ∧ HelpSta.cntSta (ing_ x0 x1).1 ≤ 1099511627000 := by
  have h0 : (x0.1.length + totalB x0.1) + (x0.2.length + totalB x0.2) ≤ 1048576 := s0
  have h1 : x1.length ≤ 1048576 := s1
  have L1 := lines_len x1.length x1 (Nat.le_refl _)
  have L2 := total_lines x1.length x1 (Nat.le_refl _)
  unfold ing_
  cases hs : segsOf x0 with
  | none => exact sml [] [] (by decide) (by decide) (by decide)
  | some ss =>
    show HelpSta.bdSta (if room ss x0.2 (lines x1) = true then ((x0.1, x0.2 ++ lines x1), (0 : Int)) else (x0, 6)).1 ∧ HelpSta.cntSta (if room ss x0.2 (lines x1) = true then ((x0.1, x0.2 ++ lines x1), (0 : Int)) else (x0, 6)).1 ≤ _
    cases room ss x0.2 (lines x1) with
    | true => rw [if_pos rfl]; exact sml x0.1 (x0.2 ++ lines x1) (by omega) (by rw [List.length_append]; omega) (by rw [total_append]; omega)
    | false => rw [if_neg (by simp)]; exact sml x0.1 x0.2 (by omega) (by omega) (by omega)
end Go.Proofs.YtmgmdnmfalepkaaGreat.Ing
