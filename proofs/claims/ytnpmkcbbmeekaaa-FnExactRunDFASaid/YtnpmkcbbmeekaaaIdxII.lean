/- slices.IndexFunc and slices.ContainsFunc at [][]int,[]int: the first place at which a predicate holds, or -1; whether it holds somewhere: for every slice that reads as a list, and every predicate that does not change what lies in memory. -/
import Derived.Test.YtnpmkcbbmeekaaaKit
namespace Go.Proofs.Ytnpmkcbbmeekaaa.IdxII
open Go.RowKit Go.Proofs.YtnpmkcbbmeekaaaW.PrintWords Go.Proofs.Ytnpmkcbbmeekaaa.Kit
set_option linter.unusedVariables false

set_option maxHeartbeats 2000000 in
theorem index_calls {α : Type} (d : Kd α) (hs : d.sz = 1) (z : α) (p : α → Bool) (g : Nat) (cap : Array Value) (eg : ∀ args w, (callFunc g args).run Try.prog w = .ok (.enter g args) w)
    (A : Option Addr) (c : Nat) (xs : List α) (w : World) (hr : d.C w A xs.length xs) (hp : PredK Try.prog d g cap p xs w) :
    Calls Try.prog 59 #[.slice A xs.length c, .func (.func g) #[] cap] w fun e w' => e = .returned (.int .i64 (idxB p xs)) ∧ Grew w w' := by
  have hbig : xs.length ≤ 9223372036854775807 := hr.2.1
  have HR := Aside0.mk hr
  have HP := Aside0.mk hp
  clear hr hp
  go_enter Try.func59, Try.ntmps59
  go_wp2
  go_loopg [5, 8] xs.length (fun gg _ s8 wr => ∃ kk : Nat, kk ≤ xs.length ∧ xs.length - kk ≤ gg ∧ s8 = .int .i64 kk ∧ Aside0 (Below w.heap.size w wr) ∧ Aside0 (∀ j, j < kk → p (xs.getD j z) = false))
  case atStart => exact ⟨0, Nat.zero_le _, by omega, rfl, ⟨Below.refl _ w⟩, ⟨fun j hj => absurd hj (Nat.not_lt_zero _)⟩⟩
  case round =>
    obtain ⟨kk, hkk, hg, rfl, BW, HA⟩ := hrel
    by_cases hlt : kk < xs.length
    · have hltz : (kk : Int) < (xs.length : Int) := by omega
      obtain ⟨ad, u, rfl, hc0, hK⟩ := get_one hs HR.out z kk hlt
      have hcell : wr.cell? (ad.add kk) = some u := (BW.out.cell (World.block_lt_of_cell? w _ hc0)).trans hc0
      have hcall := HP.out wr (xs.getD kk z) u (getD_mem xs z kk hlt) BW.out (d.K_below (pw_grow BW.out) hK)
      clear hc0 hK
      cases hq : p (xs.getD kk z) with
      | true =>
        rw [hq] at hcall
        have HQ := Aside0.mk hq
        clear hq
        go_wp2_with (go_at_fn g; refine hcall.mono ?_; rintro e w' ⟨rfl, hb'⟩)
        go_ret
        refine ⟨?_, below_then BW.out BW.out.size hb'⟩
        rw [idxB_hit p xs z kk hlt HQ.out HA.out]; rfl
      | false =>
        rw [hq] at hcall
        have HQ := Aside0.mk hq
        clear hq
        go_wp2_with (go_at_fn g; refine hcall.mono ?_; rintro e w' ⟨rfl, hb'⟩)
        go_roundg (xs.length - (kk + 1))
        case measure => omega
        case rel =>
          refine ⟨kk + 1, by omega, by omega, by go_num, ⟨below_then BW.out BW.out.size hb'⟩, ⟨fun j hj => ?_⟩⟩
          by_cases e : j = kk
          · subst e
            exact HQ.out
          · exact HA.out j (by omega)
    · have hltz : ¬ (kk : Int) < (xs.length : Int) := by omega
      go_wp2
      go_ret
      refine ⟨?_, BW.out⟩
      rw [idxB_none p xs z (fun j hj => HA.out j (by omega))]; rfl

set_option maxHeartbeats 2000000 in
theorem contains_calls {α : Type} (d : Kd α) (hs : d.sz = 1) (z : α) (p : α → Bool) (g : Nat) (cap : Array Value) (eg : ∀ args w, (callFunc g args).run Try.prog w = .ok (.enter g args) w)
    (A : Option Addr) (c : Nat) (xs : List α) (w : World) (hr : d.C w A xs.length xs) (hp : PredK Try.prog d g cap p xs w) :
    Calls Try.prog 41 #[.slice A xs.length c, .func (.func g) #[] cap] w fun e w' => e = .returned (.bool (xs.any p)) ∧ Grew w w' := by
  have hcall := index_calls d hs z p g cap eg A c xs w hr hp
  have HB := Aside0.mk (idxB_any p xs)
  clear hr hp
  go_enter Try.func41, Try.ntmps41
  generalize hi : idxB p xs = i at hcall HB
  clear hi
  go_wp2_with (go_at_call 59; refine hcall.mono ?_; rintro e w' ⟨rfl, hb'⟩)
  go_ret
  exact ⟨by rw [← HB.out]; rfl, hb'⟩
end Go.Proofs.Ytnpmkcbbmeekaaa.IdxII
