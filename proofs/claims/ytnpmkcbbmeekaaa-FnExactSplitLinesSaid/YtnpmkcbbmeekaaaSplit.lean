/- impl.SplitLines: it answers the text's lines, each in memory of its own: for every text of up to 2^20 bytes. -/
import Derived.Test.YtnpmkcbbmeekaaaKit
import Derived.Test.YtnpmkcbbmeekaaaPLines
import Derived.Test.YtnpmkcbbmeekaaaShelf
import Derived.Test.YtnpmkcbbmeekaaaNode
import Derived.Test.YtnpmkcbbmeekaaaMark
import Derived.Deep.RegionLaw
import Derived.Deep.RegionHeld3
import Derived.Deep.AppendLies
namespace Go.Proofs.Ytnpmkcbbmeekaaa.Split
open Go.RowKit Go.Proofs.YtnpmkcbbmeekaaaW.PrintWords Go.Proofs.YtnpmkcbbmeekaaaW.PrintMore Go.Proofs.Ytnpmkcbbmeekaaa.Kit Go.Proofs.Ytnpmkcbbmeekaaa.PLines Go.Proofs.Ytnpmkcbbmeekaaa.Mark
set_option linter.unusedVariables false

theorem infoB : (Try.prog.info? 38).map (fun i => (i.zero, i.size, i.bytes)) = some (some (.slice none 0 0), 1, 24) := by kernel_rfl
theorem cellB {w : World} {ad : Addr} {n : Nat} {xs : List Int} (h : Kd.C (Kd.int .u8) w (some ad) n xs) (i : Nat) (hi : i < n) : w.cell? (ad.add i) = some (.int .u8 (xs.getD i 0)) := by
  obtain ⟨ad', c, e, _, hK, hc0⟩ := Kd.C_get h 0 (i : Int) (by omega) (by omega)
  cases e
  rw [Int.toNat_natCast] at hK hc0
  have hk : c = [.int .u8 (xs.getD i 0)] := hK
  subst hk
  have := hc0 0 _ rfl
  simpa [Kd.int, Kd.scalar] using this
/-- What bytes.Cut hands back at a newline. -/
theorem cut_calls (ad : Addr) (c : Nat) (r : List Int) (w : World) (hr : Kd.C (Kd.int .u8) w (some ad) r.length r) (hc : r.length ≤ c) (hb : ∀ x ∈ r, 0 ≤ x ∧ x ≤ 255) (hl : r.length ≤ 1048576) :
    ∃ A2 c2 F, (r.drop (cutAt r + 1)).length ≤ c2 ∧ Kd.C (Kd.int .u8) w A2 (r.drop (cutAt r + 1)).length (r.drop (cutAt r + 1)) ∧ ∀ (W : World) (b2 : Nat), Below w.heap.size w W → W.cell? ⟨b2, 0, none⟩ = some (.int .u8 10) →
      Calls Try.prog 50 #[.slice (some ad) r.length c, .slice (some ⟨b2, 0, none⟩) 1 1] W fun e w' => Go.Proofs.Ytnpmkcbbmeekaaa.Node.Is (.tuple #[.slice (some ad) (cutAt r) c, .slice A2 (r.drop (cutAt r + 1)).length c2, .bool F]) e ∧ ∃ q, w' = W.drewN q := by
  have hcl := cutAt_le r
  have key : ∃ A2 c2 F, (r.drop (cutAt r + 1)).length ≤ c2 ∧ Kd.C (Kd.int .u8) w A2 (r.drop (cutAt r + 1)).length (r.drop (cutAt r + 1)) ∧ Go.Lib.cutV (some ad) r.length c 1 (Go.Lib.indexByte (Go.Lib.bytesOf r) ((10 : Int).toNat.toUInt8)) = .tuple #[.slice (some ad) (cutAt r) c, .slice A2 (r.drop (cutAt r + 1)).length c2, .bool F] := by
    rw [index_cut r hb]
    by_cases h : cutAt r < r.length
    · rw [if_pos h]
      have hd := Kd.C_drop (c := c) hr (m := cutAt r + 1) (by omega) hc
      refine ⟨_, c - (cutAt r + 1), true, ?_, hd, ?_⟩
      · rw [List.length_drop]; omega
      · unfold Go.Lib.cutV Go.Lib.fromV
        rw [if_pos (by omega), Int.toNat_natCast, List.length_drop]
        simp [Kd.int, Kd.scalar]
    · rw [if_neg h]
      have e : r.drop (cutAt r + 1) = [] := List.drop_of_length_le (by omega)
      rw [e]
      refine ⟨none, 0, false, Nat.le_refl _, Kd.C_nil _ _, ?_⟩
      unfold Go.Lib.cutV
      rw [if_neg (by omega)]
      have : cutAt r = r.length := by omega
      rw [this]
      rfl
  obtain ⟨A2, c2, F, k1, k2, k3⟩ := key
  refine ⟨A2, c2, F, k1, k2, fun W b2 hB h10 => ?_⟩
  have hidx : Calls Try.prog 62 #[.slice (some ad) r.length c, .slice (some ⟨b2, 0, none⟩) 1 1] W fun e w' => e = .returned (.int .i64 (Go.Lib.indexByte (Go.Lib.bytesOf r) ((10 : Int).toNat.toUInt8))) ∧ ∃ q, w' = W.drewN q := by
    refine (Try.bytes_Index_one_at ad r.length c b2 0 1 r 10 W rfl (fun i hi => (pw_cell_below hB (cellB hr i hi))) h10).mono ?_
    rintro e w' ⟨rfl, rfl⟩
    exact ⟨rfl, 0, rfl⟩
  have hcall := Try.bytes_Cut_of (some ad) (some ⟨b2, 0, none⟩) r.length c 1 1 _ W hc (Go.Lib.indexByte_ge _ _) (fun h => by
    rw [index_cut r hb] at h ⊢
    by_cases hh : cutAt r < r.length
    · rw [if_pos hh]; omega
    · rw [if_neg hh] at h; omega) (by omega) hidx
  rw [k3] at hcall
  exact hcall
/-- bytes.Clone of a line. -/
theorem clone_calls (ad : Addr) (c : Nat) (r : List Int) (w : World) (hr : Kd.C (Kd.int .u8) w (some ad) r.length r) (hl : r.length ≤ 1048576) (wr : World) (hwr : Below w.heap.size w wr) : ∀ W : World, Below wr.heap.size wr W →
    Calls Try.prog 51 #[.slice (some ad) (cutAt r) c] W fun e w' => ∃ Av cv, e = .returned (.slice Av (cutAt r) cv) ∧ (Kd.int .u8).R 5 w' wr.heap.size (fun _ => True) (.slice Av (cutAt r) cv) (r.take (cutAt r)) ∧ Below wr.heap.size wr w' := by
  intro W hW
  have hcl := cutAt_le r
  have hlen : (r.take (cutAt r)).length = cutAt r := by rw [List.length_take]; omega
  have ht := Kd.C_take hr hcl
  rw [hlen] at ht
  refine (Try.bytes_Clone_at ad (cutAt r) c (r.take (cutAt r)) W hlen (by omega) (fun i hi => pw_cell_below (grew_trans hwr hW) (cellB ht i hi))).mono ?_
  rintro e w' ⟨v', rfl, ho, _, hb⟩
  have hR : (Kd.int .u8).R 5 w' W.heap.size (fun _ => True) v' (r.take (cutAt r)) := Kd.R_of_own (by rw [hlen]; exact ho) (fun _ _ => trivial)
  obtain ⟨Av, cv, rfl⟩ := Kd.R_slice hR
  rw [hlen] at hR ⊢
  exact ⟨Av, cv, rfl, Kd.R_lower hR hW.size, grew_trans hW hb⟩
set_option maxRecDepth 100000 in
set_option maxHeartbeats 4000000 in
theorem split_calls (A : Option Addr) (c : Nat) (t : List Int) (w : World) (hr : Kd.C (Kd.int .u8) w A t.length t) (hc : t.length ≤ c) (hb : ∀ x ∈ t, 0 ≤ x ∧ x ≤ 255) (hl : t.length ≤ 1048576) :
    Calls Try.prog 27 #[.slice A t.length c] w fun e w' => ∃ v, e = .returned v ∧ Kd.S kB 38 w' w.heap.size (fun _ => True) v (lines t) ∧ Grew w w' := by
  have HR := Aside0.mk hr
  have HBD := Aside0.mk hb
  have HL := Aside0.mk hl
  clear hr hb hl
  go_enter Try.func27, Try.ntmps27
  go_wp2_with fail
  go_loopg [0, 3] t.length (fun gg s0 s3 wr => ∃ (A' : Option Addr) (c' : Nat) (r : List Int) (done : List (List Int)), r.length ≤ gg ∧ s0 = .slice A' r.length c' ∧ r.length ≤ c' ∧ Aside0 (Kd.C (Kd.int .u8) w A' r.length r) ∧ Aside0 (Kd.S kB 38 wr w.heap.size (fun _ => True) s3 done) ∧ Aside0 (Below w.heap.size w wr) ∧ Aside0 (lines t = done ++ lines r) ∧ Aside0 (done.length + r.length ≤ t.length) ∧ Aside0 (∀ x ∈ r, 0 ≤ x ∧ x ≤ 255))
  case atStart =>
    refine ⟨A, c, t, [], Nat.le_refl _, rfl, hc, HR, ⟨⟨fun _ => 0, fun _ _ => trivial, [], ⟨rfl, .inr ⟨w.heap.size, 0, #[], rfl, Nat.le_refl _, heap_alloc_new w _, by simp, by simp [maxLen], rfl, rfl⟩⟩, Reps.none _ _⟩⟩, ⟨below_alloc (Below.refl _ _) _⟩, ⟨rfl⟩, ⟨by simp⟩, HBD⟩
  case round =>
    obtain ⟨A', c', r, done, hg, rfl, hrc, HC, HS, HB, HT, HN, HX⟩ := hrel
    by_cases hz : 0 < r.length
    · have hzz : (0 : Int) < (r.length : Int) := by omega
      obtain ⟨ad, hA, _⟩ := HC.out.2.2 hz
      subst hA
      obtain ⟨A2, c2, F, k1, k2, k3⟩ := cut_calls ad c' r w HC.out hrc HX.out (by have := HN.out; have := HL.out; omega)
      have hcl := cutAt_le r
      have hclone := clone_calls ad c' r w HC.out (by have := HN.out; have := HL.out; omega) wr HB.out
      have HK1 := Aside0.mk k1
      have HK2 := Aside0.mk k2
      clear k1 k2
      go_wp2_with (first | (go_at_call 50; refine (k3 _ wr.heap.size (below_alloc HB.out _) ((blk_cell (heap_alloc_new _ _) 0).trans rfl)).mono ?_; rintro e w' ⟨rfl, q, rfl⟩) | (go_at_call 51; refine (hclone _ (by repeat (first | exact Below.refl _ _ | apply below_alloc | apply below_drew | apply pw_below_drewN))).mono ?_; rintro e w' ⟨Av, cv, rfl, hR', hb'⟩) | (at_builtin; refine Kd.S_append kB (w0 := w) w.heap.size rfl (.tmp 18) (.tmp 21) 51 38 (.slice none 0 0) 24 rfl Try.underlying51 infoB rfl (by decide) (by omega) u3 done (r.take (cutAt r)) [.slice Av (cutAt r) cv] (fun _ => True) (fun k_ => some k_ = (.slice Av (cutAt r) cv : Value).ownBlock) rfl rfl ?aP ?aK (fun _ _ => trivial) ?aO ?aB ?aS ?aL ?_; (case aP => exact Kd.M_row (Kd.R_lower (Kd.R_tight rfl hR') HB.out.size)); (case aK => exact fun k hk => ⟨trivial, fun e => by have h1 := Kd.R_base hR' k hk.symm; have h2 := Kd.S_lt HS.out k e.symm; omega⟩); (case aO => exact Kd.S_mono (Kd.S_old HS.out hb') (fun k hk => ⟨trivial, fun e => by have h1 := Kd.R_base hR' k e.symm; have h2 := hk.2; omega⟩)); (case aB => exact grew_trans HB.out hb'); (case aS => exact (grew_trans HB.out hb').size); (case aL => have := HN.out; have := HL.out; omega); intro v1 w1 hO1 hB1 hg1 hat1))
      go_roundg (r.drop (cutAt r + 1)).length
      case measure => rw [List.length_drop]; omega
      case rel =>
        refine ⟨A2, c2, r.drop (cutAt r + 1), done ++ [r.take (cutAt r)], Nat.le_refl _, by rw [List.length_drop], HK1.out, HK2, ⟨hO1⟩, ⟨hB1⟩, ⟨?_⟩, ⟨?_⟩, ⟨fun x hx => HX.out x (List.mem_of_mem_drop hx)⟩⟩
        · rw [HT.out, lines_step r (by intro e; rw [e] at hz; simp at hz), List.append_assoc]
          rfl
        · rw [List.length_append, List.length_drop]
          have := HN.out
          simp
          omega
    · have hzz : ¬ (0 : Int) < (r.length : Int) := by omega
      obtain rfl : r = [] := List.length_eq_zero_iff.1 (by omega)
      go_wp2
      go_ret
      refine ⟨_, rfl, ?_, HB.out⟩
      rw [HT.out, lines_nil, List.append_nil]
      exact HS.out
end Go.Proofs.Ytnpmkcbbmeekaaa.Split
