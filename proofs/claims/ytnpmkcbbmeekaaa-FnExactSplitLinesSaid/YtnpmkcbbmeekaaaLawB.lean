/- The laws' helpers on bytes and rows of bytes, in plain words: copying, comparing with itself, looking for the marks. -/
import Derived.Test.YtnpmkcbbmeekaaaMark
import Derived.Test.YtnpmkcbbmeekaaaSx4
namespace Go.Proofs.Ytnpmkcbbmeekaaa.LawB
open Go.RowKit Go.Proofs.YtnpmkcbbmeekaaaW.PrintWords Go.Proofs.YtnpmkcbbmeekaaaW.PrintMore Go.Proofs.Ytnpmkcbbmeekaaa.Kit Go.Proofs.Ytnpmkcbbmeekaaa.PKit Go.Proofs.Ytnpmkcbbmeekaaa.Mark Go.Proofs.Ytnpmkcbbmeekaaa.S
set_option linter.unusedVariables false

theorem toB_ev (l : List Int) (hl : l.length ≤ 1048576) : Ev (fun k => laws_toByteS.f k l) l := by
  have key : ∀ (d i : Nat) (out : List Int), i + d = l.length → out.length = l.length → out.take i = l.take i → Ev (fun k => laws_toByteS.l0 k l out i) l := by
    intro d
    induction d with
    | zero =>
      intro i out hd ho ht
      rw [List.take_of_length_le (by omega), List.take_of_length_le (by omega)] at ht
      subst ht
      refine Ev.step (f := fun _ => some out) (fun k => ?_) (Ev.now _)
      simp only [laws_toByteS.l0]
      rw [if_neg (by omega)]
    | succ d ih =>
      intro i out hd ho ht
      refine Ev.step (f := fun k => laws_toByteS.l0 k l (out.set i (rd l i)) ((i + 1 : Nat) : Int)) (fun k => ?_) (ih (i + 1) _ (by omega) (by simp [ho]) (set_take l out i _ (by omega) ho ht ?_))
      · simp only [laws_toByteS.l0]
        rw [if_pos (by omega), if_pos (by omega), if_pos (by omega), wrap_succ i (by omega), Int.toNat_natCast]
      · rw [rd_get l i (by omega), List.getElem?_eq_getElem (by omega)]
  refine Ev.congr (fun k => ?_) (key l.length 0 (List.replicate l.length 0) (by omega) (by simp) (by simp))
  simp only [laws_toByteS.f]
  rw [if_pos (by omega), if_pos (by omega), Int.toNat_natCast]
  rfl
theorem eqB_ev (l : List Int) (hl : l.length ≤ 1048576) : Ev (fun k => laws_eqByteS.f k l l) true := by
  have key : ∀ (d i : Nat), i + d = l.length → Ev (fun k => laws_eqByteS.l0 k l l i) true := by
    intro d
    induction d with
    | zero =>
      intro i hd
      refine Ev.step (f := fun _ => some true) (fun k => ?_) (Ev.now _)
      simp only [laws_eqByteS.l0]
      rw [if_neg (by omega)]
    | succ d ih =>
      intro i hd
      refine Ev.step (f := fun k => laws_eqByteS.l0 k l l ((i + 1 : Nat) : Int)) (fun k => ?_) (ih (i + 1) (by omega))
      simp only [laws_eqByteS.l0]
      rw [if_pos (by omega), if_pos (by omega), if_pos (by omega), if_pos trivial, wrap_succ i (by omega)]
  refine Ev.congr (fun k => ?_) (key l.length 0 (by omega))
  simp only [laws_eqByteS.f]
  rw [if_pos trivial]
  rfl
theorem total_mem {xs : List (List Int)} {x : List Int} (h : x ∈ xs) : x.length ≤ total xs := by
  induction xs with
  | nil => cases h
  | cons y r ih =>
    simp only [total]
    rcases List.mem_cons.1 h with e | h
    · subst e; omega
    · have := ih h; omega
theorem rdL_mem (xs : List (List Int)) (i : Nat) (h : i < xs.length) : rd_L1 xs (i : Int) ∈ xs := by
  have e : rd_L1 xs (i : Int) = xs[i] := by simp [rd_L1, List.getD, List.getElem?_eq_getElem h]
  rw [e]
  exact List.getElem_mem _
theorem eqSS_ev (xs : List (List Int)) (hl : xs.length ≤ 1048577) (ht : total xs ≤ 1048576) : Ev (fun k => laws_eqByteSS.f k xs xs) true := by
  have key : ∀ (d i : Nat), i + d = xs.length → Ev (fun k => laws_eqByteSS.l0 k xs xs i) true := by
    intro d
    induction d with
    | zero =>
      intro i hd
      refine Ev.step (f := fun _ => some true) (fun k => ?_) (Ev.now _)
      simp only [laws_eqByteSS.l0]
      rw [if_neg (by omega)]
    | succ d ih =>
      intro i hd
      obtain ⟨K1, g1⟩ := eqB_ev (rd_L1 xs (i : Int)) (by have := total_mem (rdL_mem xs i (by omega)); omega)
      obtain ⟨K2, g2⟩ := ih (i + 1) (by omega)
      refine ⟨K1 + K2 + 1, fun n hn => ?_⟩
      obtain ⟨n, rfl⟩ : ∃ m, n = m + 1 := ⟨n - 1, by omega⟩
      have g1' := g1 n (by omega)
      have g2' := g2 n (by omega)
      simp only at g1' g2'
      simp only [laws_eqByteSS.l0]
      rw [if_pos (by omega), if_pos (by omega), if_pos (by omega), g1', Option.bind_some, if_pos rfl, wrap_succ i (by omega), g2']
  refine Ev.congr (fun k => ?_) (key xs.length 0 (by omega))
  simp only [laws_eqByteSS.f]
  rw [if_pos trivial]
  rfl
theorem heldB_ev (l : List Int) (a : Int) (a0 : 0 ≤ a) (a1 : a + l.length ≤ 1099511627776) : Ev (fun k => laws_heldByteS.f k (markL a l) a) (a + l.length) := by
  have key : ∀ (r : List Int) (p : List Int) (b : Int), 0 ≤ b → b + r.length ≤ 1099511627776 → p.length + r.length ≤ 1099511627776 → Ev (fun k => laws_heldByteS.l0 k (p ++ markL b r) b (p.length : Int)) (b + r.length) := by
    intro r
    induction r with
    | nil =>
      intro p b b0 b1 hp
      have e : (b + ((([] : List Int).length : Nat) : Int)) = b := by simp
      rw [e]
      refine Ev.step (f := fun _ => some b) (fun k => ?_) (Ev.now _)
      simp only [laws_heldByteS.l0]
      rw [if_neg (by simp [markL])]
    | cons x r ih =>
      intro p b b0 b1 hp
      simp only [List.length_cons] at b1 hp
      have h := ih (p ++ [b % 256]) (b + 1) (by omega) (by omega) (by simp; omega)
      have e : (b + 1 + (r.length : Int)) = (b + (((x :: r).length : Nat) : Int)) := by simp only [List.length_cons]; omega
      rw [e, List.append_assoc] at h
      refine Ev.step (fun k => ?_) h
      simp only [laws_heldByteS.l0]
      have hg : rd (p ++ markL b (x :: r)) (p.length : Int) = b % 256 := by simp [rd, markL]
      rw [if_pos (by simp [markL]; omega), if_pos (by omega), hg, if_pos rfl, wrap_in (x := b + 1) (by omega), wrap_succ _ (by omega)]
      simp only [List.length_append, List.length_cons, List.length_nil]
      rfl
  have h := key l [] a a0 a1 (by simp; omega)
  exact Ev.congr (fun k => by simp only [laws_heldByteS.f]; rfl) h
theorem heldSS_ev (xs : List (List Int)) (a : Int) (a0 : 0 ≤ a) (a1 : a + total xs ≤ 1099511627776) (hl : xs.length ≤ 1099511627776) : Ev (fun k => laws_heldByteSS.f k (markSS a xs) a) (a + total xs) := by
  have key : ∀ (r : List (List Int)) (p : List (List Int)) (b : Int), 0 ≤ b → b + total r ≤ 1099511627776 → p.length + r.length ≤ 1099511627776 → Ev (fun k => laws_heldByteSS.l0 k (p ++ markSS b r) b (p.length : Int)) (b + total r) := by
    intro r
    induction r with
    | nil =>
      intro p b b0 b1 hp
      have e : (b + ((total [] : Nat) : Int)) = b := by simp [total]
      rw [e]
      refine Ev.step (f := fun _ => some b) (fun k => ?_) (Ev.now _)
      simp only [laws_heldByteSS.l0]
      rw [if_neg (by simp [markSS])]
    | cons x r ih =>
      intro p b b0 b1 hp
      simp only [total, List.length_cons] at b1 hp
      obtain ⟨K2, g2⟩ := ih (p ++ [markL b x]) (b + x.length) (by omega) (by omega) (by simp; omega)
      obtain ⟨K1, g1⟩ := heldB_ev x b b0 (by omega)
      have e : (b + x.length + (total r : Int)) = (b + ((total (x :: r) : Nat) : Int)) := by simp only [total]; omega
      rw [e, List.append_assoc] at g2
      refine ⟨K1 + K2 + 1, fun n hn => ?_⟩
      obtain ⟨n, rfl⟩ : ∃ m, n = m + 1 := ⟨n - 1, by omega⟩
      have g1' := g1 n (by omega)
      have g2' := g2 n (by omega)
      simp only at g1' g2'
      have hg : rd_L1 (p ++ markSS b (x :: r)) (p.length : Int) = markL b x := by simp [rd_L1, markSS]
      simp only [laws_heldByteSS.l0]
      rw [if_pos (by simp [markSS]; omega), if_pos (by omega), hg, g1', Option.bind_some, if_neg (by omega), wrap_succ _ (by omega)]
      simp only [List.length_append, List.length_cons, List.length_nil] at g2'
      exact g2'
  have h := key xs [] a a0 a1 (by simp; omega)
  exact Ev.congr (fun k => by simp only [laws_heldByteSS.f]; rfl) h

theorem toB_calls (A : Option Addr) (c : Nat) (l : List Int) (w : World) (hr : Kd.C (Kd.int .u8) w A l.length l) (hc : l.length ≤ c) (hl : l.length ≤ 1048576) :
    Calls Try.prog 18 #[.slice A l.length c] w fun e w' => ∃ A1 c1, e = .returned (.slice A1 l.length c1) ∧ Kd.R (Kd.int .u8) 5 w' w.heap.size (fun _ => True) (.slice A1 l.length c1) l ∧ Below w.heap.size w w' := by
  obtain ⟨k, hk⟩ := (toB_ev l hl).rounds
  refine (laws_toByteS.calls k A c l l w hr hc hk).mono ?_
  rintro e w' ⟨v, rfl, h1, h2⟩
  obtain ⟨A1, c1, rfl⟩ := Kd.R_slice h1
  exact ⟨A1, c1, rfl, h1, h2⟩
theorem eqB_calls (A : Option Addr) (c : Nat) (A1 : Option Addr) (c1 : Nat) (l : List Int) (w : World) (hr : Kd.C (Kd.int .u8) w A l.length l) (hc : l.length ≤ c) (hr1 : Kd.C (Kd.int .u8) w A1 l.length l) (hc1 : l.length ≤ c1) (hl : l.length ≤ 1048576) :
    Calls Try.prog 21 #[.slice A l.length c, .slice A1 l.length c1] w fun e w' => e = .returned (.bool true) ∧ ∃ n, w' = w.drewN n := by
  obtain ⟨k, hk⟩ := (eqB_ev l hl).rounds
  refine (laws_eqByteS.calls k A c l A1 c1 l true w hr hc hr1 hc1 hk).mono ?_
  rintro e w' ⟨rfl, h2⟩
  exact ⟨rfl, h2.out⟩
theorem eqSS_calls (A : Option Addr) (c : Nat) (A1 : Option Addr) (c1 : Nat) (l : List (List Int)) (w : World) (hr : Kd.C kB w A l.length l) (hc : l.length ≤ c) (hr1 : Kd.C kB w A1 l.length l) (hc1 : l.length ≤ c1) (hl : l.length ≤ 1048577) (ht : total l ≤ 1048576) :
    Calls Try.prog 28 #[.slice A l.length c, .slice A1 l.length c1] w fun e w' => e = .returned (.bool true) ∧ ∃ n, w' = w.drewN n := by
  obtain ⟨k, hk⟩ := (eqSS_ev l hl ht).rounds
  refine (laws_eqByteSS.calls k A c l A1 c1 l true w hr hc hr1 hc1 hk).mono ?_
  rintro e w' ⟨rfl, h2⟩
  exact ⟨rfl, h2.out⟩
theorem heldSS_calls (A : Option Addr) (c : Nat) (xs : List (List Int)) (a : Int) (w : World) (n : Nat) (hn : xs.length = n) (hr : Kd.C kB w A n (markSS a xs)) (hc : n ≤ c) (a0 : 0 ≤ a) (a1 : a + total xs ≤ 1099511627776) (hl : xs.length ≤ 1099511627776) :
    Calls Try.prog 30 #[.slice A n c, .int .i64 a] w fun e w' => e = .returned (.int .i64 (a + total xs)) ∧ ∃ n, w' = w.drewN n := by
  obtain ⟨k, hk⟩ := (heldSS_ev xs a a0 a1 hl).rounds
  have hlen : (markSS a xs).length = n := by rw [markSS_len, hn]
  subst hlen
  refine (laws_heldByteSS.calls k A c (markSS a xs) a _ w hr hc hk).mono ?_
  rintro e w' ⟨rfl, h2⟩
  exact ⟨rfl, h2.out⟩
end Go.Proofs.Ytnpmkcbbmeekaaa.LawB
