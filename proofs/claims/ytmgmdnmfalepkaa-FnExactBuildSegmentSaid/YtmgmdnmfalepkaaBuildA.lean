import Derived.Test.YtmgmdnmfalepkaaKit
import Derived.Test.YtmgmdnmfalepkaaPSeg
import Derived.Test.YtmgmdnmfalepkaaShelf
import Derived.Test.YtmgmdnmfalepkaaHelpBB
import Derived.Deep.RegionLaw
import Derived.Deep.RegionHeld3
import Derived.Deep.AppendLies
import Derived.Lib.BytesEntry
namespace Go.Proofs.Ytmgmdnmfalepkaa.Build
open Go.RowKit Go.Proofs.YtmgmdnmfalepkaaW.PrintWords Go.Proofs.YtmgmdnmfalepkaaW.PrintMore Go.Proofs.Ytmgmdnmfalepkaa.Kit Go.Proofs.Ytmgmdnmfalepkaa.PKit Go.Proofs.Ytmgmdnmfalepkaa.Ty Go.Proofs.Ytmgmdnmfalepkaa.HelpBB Go.Proofs.Ytmgmdnmfalepkaa.PSeg
set_option linter.unusedVariables false
theorem infoBB : (Try.prog.info? 33).map (fun i => (i.zero, i.size, i.bytes)) = some (some (.slice none 0 0), 1, 24) := by kernel_rfl
theorem infoB : (Try.prog.info? 5).map (fun i => (i.zero, i.size, i.bytes)) = some (some (.int .u8 0), 1, 1) := by kernel_rfl
theorem cellB {w : World} {ad : Addr} {n : Nat} {xs : List Int} (h : Kd.C (Kd.int .u8) w (some ad) n xs) (i : Nat) (hi : i < n) : w.cell? (ad.add i) = some (.int .u8 (xs.getD i 0)) := by
  obtain ⟨ad', c, e, _, hK, hc0⟩ := Kd.C_get h 0 (i : Int) (by omega) (by omega)
  cases e
  rw [Int.toNat_natCast] at hK hc0
  have hk : c = [.int .u8 (xs.getD i 0)] := hK
  subst hk
  have := hc0 0 _ rfl
  simpa [Kd.int, Kd.scalar] using this
theorem index_neg (t : List Int) (hb : ∀ x ∈ t, 0 ≤ x ∧ x ≤ 255) : decide (Go.Lib.indexByte (Go.Lib.bytesOf t) ((10 : Int).toNat.toUInt8) < 0) = decide (10 ∉ t) := by
  induction t with
  | nil => rfl
  | cons x r ih =>
    have ih := ih (fun y hy => hb y (List.mem_cons_of_mem _ hy))
    obtain ⟨b0, b1⟩ := hb x (List.mem_cons_self ..)
    have e : Go.Lib.bytesOf (x :: r) = UInt8.ofNat x.toNat :: Go.Lib.bytesOf r := rfl
    rw [e]
    unfold Go.Lib.indexByte
    by_cases h10 : x = 10
    · subst h10
      rw [if_pos (by rfl), decide_eq_false (by omega), decide_eq_false (by simp)]
    · have hne : (UInt8.ofNat x.toNat == (10 : Int).toNat.toUInt8) = false := by
        rw [beq_eq_false_iff_ne]
        intro h
        have h2 := congrArg UInt8.toNat h
        rw [UInt8.toNat_ofNat'] at h2
        have h3 : ((10 : Int).toNat.toUInt8).toNat = 10 := rfl
        rw [h3] at h2
        omega
      have em : decide (10 ∉ x :: r) = decide (10 ∉ r) := decide_eq_decide.2 (by
        constructor
        · exact fun h hm => h (List.mem_cons_of_mem _ hm)
        · exact fun h hm => by
            rcases List.mem_cons.1 hm with e | hm
            · exact h10 e.symm
            · exact h hm)
      rw [hne, if_neg (by simp), em, ← ih]
      have hge := Go.Lib.indexByte_ge (Go.Lib.bytesOf r) ((10 : Int).toNat.toUInt8)
      generalize Go.Lib.indexByte (Go.Lib.bytesOf r) ((10 : Int).toNat.toUInt8) = q at hge ⊢
      by_cases hq : q = -1
      · subst hq
        rfl
      · have : (q == -1) = false := by rw [beq_eq_false_iff_ne]; exact hq
        rw [this, if_neg (by simp)]
        exact decide_eq_decide.2 (by omega)
set_option maxRecDepth 100000 in
theorem index_none (c : Nat) (cv : Int) (w : World) :
    Calls Try.prog 137 #[.slice none 0 c, .int .u8 cv] w fun e w' => e = .returned (.int .i64 (-1)) ∧ w' = w := by
  go_enter Try.func137, Try.ntmps137
  go_wp2
  rw [run_callFunc_extern Try.func169 (by kernel_rfl) (by kernel_rfl) (by kernel_rfl) (e := Extern.BytealgIndexByte.indexByte) (by kernel_rfl), Lib.run_indexByteNil w 0 c cv]
  simp only [Result.andThen]
  rw [Oper.upon_value]
  go_wp2
  go_ret
  exact ⟨rfl, rfl⟩
theorem index_calls (A : Option Addr) (c : Nat) (t : List Int) (w : World) (hr : Kd.C (Kd.int .u8) w A t.length t) (hc : t.length ≤ c) (hb : ∀ x ∈ t, 0 ≤ x ∧ x ≤ 255) :
    Calls Try.prog 137 #[.slice A t.length c, .int .u8 10] w fun e w' => (∃ q : Int, e = .returned (.int .i64 q) ∧ decide (q < 0) = decide (10 ∉ t)) ∧ w' = w := by
  rcases A with _ | ad
  · have h0 : t = [] := by
      rcases t with _ | ⟨x, r⟩
      · rfl
      · obtain ⟨ad, h, _⟩ := hr.2.2 (by simp)
        cases h
    subst h0
    refine (index_none c 10 w).mono ?_
    rintro e w' ⟨rfl, rfl⟩
    exact ⟨⟨-1, rfl, by decide⟩, rfl⟩
  · refine (Try.bytes_IndexByte_at ad t.length c t 10 w rfl (fun i hi => cellB hr i hi)).mono ?_
    rintro e w' ⟨rfl, rfl⟩
    exact ⟨⟨_, rfl, index_neg t hb⟩, rfl⟩
theorem one_calls (A : Option Addr) (c : Nat) (t : List Int) (w : World) (hr : Kd.C (Kd.int .u8) w A t.length t) (hc : t.length ≤ c) (hb : ∀ x ∈ t, 0 ≤ x ∧ x ≤ 255) :
    Calls Try.prog 93 #[.slice A t.length c] w fun e w' => e = .returned (.bool (decide (10 ∉ t))) ∧ w' = w := by
  have hi := index_calls A c t w hr hc hb
  clear hr hc hb
  go_enter Try.func93, Try.ntmps93
  go_wp2_with (go_at_call 137; refine hi.mono ?_; rintro e w' ⟨⟨q, rfl, hq⟩, rfl⟩)
  go_ret
  exact ⟨by simp, rfl⟩
set_option maxHeartbeats 2000000 in
theorem total_calls (A : Option Addr) (c : Nat) (ls : List (List Int)) (w : World) (hr : Kd.C kB w A ls.length ls) (hc : ls.length ≤ c) (hs : smallBB ls) :
    Calls Try.prog 94 #[.slice A ls.length c] w fun e w' => e = .returned (.int .i64 (totalB ls : Int)) ∧ w' = w := by
  have hs' : ls.length + totalB ls ≤ 1048576 := hs
  have HR := Aside0.mk hr
  clear hr
  go_enter Try.func94, Try.ntmps94
  go_wp2
  go_loopg [3, 8] ls.length (fun gg s3 s8 wr => ∃ i : Nat, i ≤ ls.length ∧ ls.length - i ≤ gg ∧ s3 = .int .i64 (totalB (ls.take i) : Int) ∧ s8 = .int .i64 i ∧ wr = w)
  case atStart => exact ⟨0, by omega, by omega, by simp [totalB], rfl, rfl⟩
  case round =>
    obtain ⟨i, hi, hg, rfl, rfl, rfl⟩ := hrel
    by_cases hlt : i < ls.length
    · have hltz : (i : Int) < (ls.length : Int) := by omega
      have ht := total_take ls (i + 1)
      rw [total_drop ls i hlt] at ht
      obtain ⟨ad, u, rfl, hcell, hK⟩ := get_one (d := kB) rfl HR.out [] i hlt
      obtain ⟨A', c', e', hc', hr'⟩ := hK
      obtain rfl : u = .slice A' (ls.getD i []).length c' := by injection e'
      clear hc' hr' e'
      have hd := total_drop ls i hlt
      generalize hx : ls.getD i [] = l at ht hcell hd
      clear hx
      go_wp2
      go_roundg (ls.length - (i + 1))
      case measure => omega
      case rel => exact ⟨i + 1, by omega, by omega, by rw [hd]; go_num, by go_num, rfl⟩
    · have hltz : ¬ (i : Int) < (ls.length : Int) := by omega
      obtain rfl : i = ls.length := by omega
      go_wp2
      go_ret
      exact ⟨by first | rfl | simp, rfl⟩
theorem R_empty (W : World) : Kd.R (Kd.int .u8) 5 (W.alloc (.cells #[] 5)) W.heap.size (fun _ => True) (.slice (some ⟨W.heap.size, 0, none⟩) 0 0) [] :=
  Kd.R_of_own (xs := ([] : List Int)) ⟨rfl, .inr ⟨W.heap.size, 0, #[], rfl, Nat.le_refl _, heap_alloc_new W _, by simp, by simp [maxLen], rfl, rfl⟩⟩ (fun _ _ => trivial)
set_option maxRecDepth 100000 in
set_option maxHeartbeats 4000000 in
theorem copy_calls (A : Option Addr) (c : Nat) (ls : List (List Int)) (w : World) (hr : Kd.C kB w A ls.length ls) (hc : ls.length ≤ c) (hs : smallBB ls) :
    Calls Try.prog 95 #[.slice A ls.length c] w fun e w' => ∃ v, e = .returned v ∧ Kd.S kB 33 w' w.heap.size (fun _ => True) v ls ∧ Grew w w' := by
  have hs' : ls.length + totalB ls ≤ 1048576 := hs
  have HR := Aside0.mk hr
  clear hr
  go_enter Try.func95, Try.ntmps95
  go_wp2
  go_loopg [3, 9] ls.length (fun gg s3 s9 wr => ∃ i : Nat, i ≤ ls.length ∧ ls.length - i ≤ gg ∧ s9 = .int .i64 i ∧ Aside0 (Kd.S kB 33 wr w.heap.size (fun _ => True) s3 (ls.take i)) ∧ Aside0 (Below w.heap.size w wr))
  case atStart => exact ⟨0, by omega, by omega, rfl, ⟨⟨fun _ => 0, fun _ _ => trivial, [], ⟨rfl, .inr ⟨w.heap.size, 0, #[], rfl, Nat.le_refl _, heap_alloc_new w _, by simp, by simp [maxLen], rfl, rfl⟩⟩, Reps.none _ _⟩⟩, ⟨below_alloc (Below.refl _ _) _⟩⟩
  case round =>
    obtain ⟨i, hi, hg, rfl, HS, HB⟩ := hrel
    by_cases hlt : i < ls.length
    · have hltz : (i : Int) < (ls.length : Int) := by omega
      have ht := getD_len ls i
      obtain ⟨ad, u, rfl, hcell0, hK⟩ := get_one (d := kB) rfl HR.out [] i hlt
      obtain ⟨A', c', e', hc', hr'⟩ := hK
      obtain rfl : u = .slice A' (ls.getD i []).length c' := by injection e'
      have hcell : wr.cell? (ad.add i) = some (.slice A' (ls.getD i []).length c') := (HB.out.cell (World.block_lt_of_cell? w _ hcell0)).trans hcell0
      have HC := Aside0.mk (Kd.C_below hr' HB.out)
      have hts := take_snoc ls i hlt
      clear hr' e' hcell0
      generalize hx : ls.getD i [] = l at ht hcell HC hts hc'
      clear hx
      go_wp2_with (first | (at_builtin; refine Kd.R_append_rows (Kd.int .u8) (Rr := (Kd.int .u8).K wr) (w0 := wr) wr.heap.size rfl (.tmp 14) (.tmp 15) 33 5 (.int .u8 0) 1 rfl Try.underlying33 infoB rfl (by decide) (by decide) (.slice (some ⟨wr.heap.size, 0, none⟩) 0 0) [] l A' l.length c' (fun _ => True) (fun _ => False) rfl rfl (R_empty wr) (Kd.C_alloc HC.out _) (fun x cs h => h) (fun _ h => h.elim) (fun _ _ => trivial) (below_alloc (Below.refl _ _) _) (by simp) (by simp; omega) ?_; rintro v1 w1 hR1 hB1 hg1 hat1; rw [List.nil_append] at hR1; obtain ⟨Av, cv, rfl⟩ := Kd.R_slice hR1) | (at_builtin; refine Kd.S_append kB (w0 := w) w.heap.size rfl (.tmp 13) (.tmp 17) 41 33 (.slice none 0 0) 24 rfl Try.underlying41 infoBB rfl (by decide) (by omega) u3 (ls.take i) l [.slice Av l.length cv] (fun _ => True) (fun k_ => some k_ = (.slice Av l.length cv : Value).ownBlock) rfl rfl ?aP ?aK (fun _ _ => trivial) ?aO ?aB ?aS ?aL ?_; (case aP => exact Kd.M_row (Kd.R_lower (Kd.R_tight rfl hR1) HB.out.size)); (case aK => exact fun k hk => ⟨trivial, fun e => by have h1 := Kd.R_base hR1 k hk.symm; have h2 := Kd.S_lt HS.out k e.symm; omega⟩); (case aO => exact Kd.S_mono (Kd.S_old HS.out hB1) (fun k hk => ⟨trivial, fun e => by have h1 := Kd.R_base hR1 k e.symm; have h2 := hk.2; omega⟩)); (case aB => exact grew_trans HB.out hB1); (case aS => exact (grew_trans HB.out hB1).size); (case aL => (rw [List.length_take]; omega)); intro v2 w2 hO2 hB2 hg2 hat2))
      go_roundg (ls.length - (i + 1))
      case measure => omega
      case rel => exact ⟨i + 1, by omega, by omega, by go_num, ⟨by rw [hts]; exact hO2⟩, ⟨hB2⟩⟩
    · have hltz : ¬ (i : Int) < (ls.length : Int) := by omega
      obtain rfl : i = ls.length := by omega
      have h2 := HS.out
      rw [List.take_length] at h2
      have H2 := Aside0.mk h2
      clear h2
      go_wp2
      go_ret
      exact ⟨_, rfl, H2.out, HB.out⟩
end Go.Proofs.Ytmgmdnmfalepkaa.Build
