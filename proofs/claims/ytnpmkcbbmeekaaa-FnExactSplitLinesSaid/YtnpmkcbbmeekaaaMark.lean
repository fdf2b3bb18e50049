/- laws.markByteSS: it writes its marks into the rows of a row, one behind the other: for every row of rows that is the caller's own, no two of which lie in one block. -/
import Derived.Test.YtnpmkcbbmeekaaaKit
import Derived.Test.YtnpmkcbbmeekaaaPKit
import Derived.Test.YtnpmkcbbmeekaaaSx1
namespace Go.Proofs.Ytnpmkcbbmeekaaa.Mark
open Go.RowKit Go.Proofs.YtnpmkcbbmeekaaaW.PrintWords Go.Proofs.YtnpmkcbbmeekaaaW.PrintMore Go.Proofs.Ytnpmkcbbmeekaaa.Kit Go.Proofs.Ytnpmkcbbmeekaaa.PKit Go.Proofs.Ytnpmkcbbmeekaaa.S
set_option linter.unusedVariables false

def markL (a : Int) : List Int → List Int
  | [] => []
  | _ :: r => (a % 256) :: markL (a + 1) r
theorem markL_len (l : List Int) : ∀ a, (markL a l).length = l.length := by
  induction l with
  | nil => intro a; rfl
  | cons x r ih => intro a; simp [markL, ih]
def total : List (List Int) → Nat
  | [] => 0
  | x :: r => x.length + total r
def markSS (a : Int) : List (List Int) → List (List Int)
  | [] => []
  | x :: r => markL a x :: markSS (a + x.length) r
/-- The row when i of its rows bear their marks. -/
def part (a : Int) (xs : List (List Int)) (i : Nat) : List (List Int) := markSS a (xs.take i) ++ xs.drop i
theorem markSS_len (xs : List (List Int)) : ∀ a, (markSS a xs).length = xs.length := by
  induction xs with
  | nil => intro a; rfl
  | cons x r ih => intro a; simp [markSS, ih]
theorem part_len (a : Int) (xs : List (List Int)) (i : Nat) : (part a xs i).length = xs.length := by
  unfold part
  rw [List.length_append, markSS_len, List.length_take, List.length_drop]
  omega
theorem markSS_snoc (xs : List (List Int)) (x : List Int) : ∀ a, markSS a (xs ++ [x]) = markSS a xs ++ [markL (a + total xs) x] := by
  induction xs with
  | nil => intro a; simp [markSS, total]
  | cons y r ih =>
    intro a
    simp only [List.cons_append, markSS, ih, total]
    congr 4
    omega
theorem total_snoc (xs : List (List Int)) (x : List Int) : total (xs ++ [x]) = total xs + x.length := by
  induction xs with
  | nil => simp [total]
  | cons y r ih => simp only [List.cons_append, total, ih]; omega
theorem take_snoc (xs : List (List Int)) (i : Nat) (hi : i < xs.length) : xs.take (i + 1) = xs.take i ++ [xs.getD i []] := by
  rw [List.take_succ_eq_append_getElem hi]
  simp [List.getD, List.getElem?_eq_getElem hi]
theorem part_get (a : Int) (xs : List (List Int)) (i : Nat) (hi : i < xs.length) : (part a xs i).getD i [] = xs.getD i [] := by
  unfold part
  have hl : (markSS a (xs.take i)).length = i := by rw [markSS_len, List.length_take]; omega
  simp only [List.getD]
  rw [List.getElem?_append_right (by omega), hl, Nat.sub_self, List.getElem?_drop]
  rfl
theorem part_set (a : Int) (xs : List (List Int)) (i : Nat) (hi : i < xs.length) : (part a xs i).set i (markL (a + total (xs.take i)) (xs.getD i [])) = part a xs (i + 1) := by
  unfold part
  have hl : (markSS a (xs.take i)).length = i := by rw [markSS_len, List.length_take]; omega
  rw [List.set_append_right _ _ (by omega), hl, Nat.sub_self, take_snoc xs i hi, markSS_snoc, List.append_assoc]
  have hd : xs.drop i = xs.getD i [] :: xs.drop (i + 1) := by
    rw [List.drop_eq_getElem_cons hi]
    simp [List.getD, List.getElem?_eq_getElem hi]
  rw [hd]
  rfl
theorem total_take (xs : List (List Int)) (i : Nat) : total (xs.take i) ≤ total xs := by
  induction xs generalizing i with
  | nil => simp [total]
  | cons x r ih =>
    cases i with
    | zero => simp [total]
    | succ i => simp only [List.take_succ_cons, total]; have := ih i; omega

theorem markB_ev (l : List Int) (a : Int) (a0 : 0 ≤ a) (a1 : a + l.length ≤ 1099511627776) : Ev (fun k => laws_markByteS.f k l a) (a + l.length, markL a l) := by
  have key : ∀ (r : List Int) (p : List Int) (b : Int), 0 ≤ b → b + r.length ≤ 1099511627776 → p.length + r.length ≤ 1099511627776 → Ev (fun k => laws_markByteS.l0 k (p ++ r) b (p.length : Int)) (b + r.length, p ++ markL b r) := by
    intro r
    induction r with
    | nil =>
      intro p b b0 b1 hp
      refine Ev.step (f := fun _ => some (b, p)) (fun k => ?_) ?_
      · simp only [laws_markByteS.l0]
        rw [if_neg (by simp), List.append_nil]
      · have e : (b + ((([] : List Int).length : Nat) : Int), p ++ markL b []) = (b, p) := by simp [markL]
        rw [e]
        exact Ev.now _
    | cons x r ih =>
      intro p b b0 b1 hp
      simp only [List.length_cons] at b1 hp
      have h := ih (p ++ [b % 256]) (b + 1) (by omega) (by omega) (by simp; omega)
      have e : (b + 1 + (r.length : Int), p ++ [b % 256] ++ markL (b + 1) r) = (b + (((x :: r).length : Nat) : Int), p ++ markL b (x :: r)) := by
        simp only [markL, List.length_cons, List.append_assoc, List.singleton_append]
        congr 1
        omega
      rw [e] at h
      refine Ev.step (fun k => ?_) h
      simp only [laws_markByteS.l0]
      rw [if_pos (by simp; omega), if_pos (by omega), Int.toNat_natCast, wrap_in (x := b + 1) (by omega), wrap_succ _ (by omega)]
      have e2 : (p ++ x :: r).set p.length (b % 256) = p ++ [b % 256] ++ r := by
        rw [List.set_append_right _ _ (Nat.le_refl _), Nat.sub_self]
        simp
      rw [e2]
      simp only [List.length_append, List.length_cons, List.length_nil]
  have h := key l [] a a0 a1 (by simp; omega)
  exact Ev.congr (fun k => by simp only [laws_markByteS.f]; rfl) h

abbrev kB := Kd.slice 5 (Kd.int .u8)
/-- markByteS, in plain words, its row's blocks told as before. -/
theorem markB_calls (ok : Nat → Prop) (v : Value) (l : List Int) (a : Int) (w0 w : World) (hB : Below w0.heap.size w0 w) (h : Kd.R (Kd.int .u8) 5 w w0.heap.size ok v l) (a0 : 0 ≤ a) (a1 : a + l.length ≤ 1099511627776) :
    Calls Try.prog 23 #[v, .int .i64 a] w fun e w' => e = .returned (.int .i64 (a + l.length)) ∧ Kd.R (Kd.int .u8) 5 w' w0.heap.size ok v (markL a l) ∧ Below w0.heap.size w0 w' ∧ Kept w w' ok := by
  obtain ⟨k, hk⟩ := (markB_ev l a a0 a1).rounds
  refine (laws_markByteS.calls k ok v l a _ _ w0 w hB h hk).mono ?_
  rintro e w' ⟨rfl, h1, h2, h3⟩
  refine ⟨rfl, ?_, h2, h3⟩
  exact Kd.R_mono (Kd.R_tight rfl h1) (fun k hk => h.1 k hk.symm)

set_option maxRecDepth 100000 in
set_option maxHeartbeats 2000000 in
theorem markSS_calls (ok : Nat → Prop) (v : Value) (xs : List (List Int)) (a : Int) (w0 w : World) (hB : Below w0.heap.size w0 w) (h : Kd.S kB 38 w w0.heap.size ok v xs) (a0 : 0 ≤ a) (a1 : a + total xs ≤ 1099511627776) (hlen : xs.length ≤ 1099511627776) :
    Calls Try.prog 29 #[v, .int .i64 a] w fun e w' => e = .returned (.int .i64 (a + total xs)) ∧ Kd.S kB 38 w' w0.heap.size ok v (markSS a xs) ∧ Below w0.heap.size w0 w' ∧ Kept w w' ok := by
  by_cases hz : xs.length = 0
  · obtain rfl := List.length_eq_zero_iff.1 hz
    obtain ⟨A, c, rfl⟩ := Kd.S_slice h
    have HH := Aside0.mk h
    have HB := Aside0.mk hB
    clear h hB hz hlen
    simp only [List.length_nil]
    go_enter Try.func29, Try.ntmps29
    go_wp2
    go_loopg [1, 5] 0 (fun gg s1 s5 wr => s1 = .int .i64 a ∧ s5 = .int .i64 0 ∧ wr = w)
    case atStart => exact ⟨rfl, rfl, rfl⟩
    case round =>
      obtain ⟨rfl, rfl, rfl⟩ := hrel
      go_wp2
      go_ret
      exact ⟨by simp [total], HH.out, HB.out, Kept.refl _ _⟩
  · obtain ⟨g, cap, rfl, _, _, _⟩ := Kd.S_form h (by omega)
    have HH := Aside0.mk h
    have HB0 := Aside0.mk hB
    have HL := Aside0.mk a1
    clear h hB
    go_enter Try.func29, Try.ntmps29
    go_wp2
    go_loopg [1, 5] xs.length (fun gg s1 s5 wr => ∃ i : Nat, i ≤ xs.length ∧ xs.length - i ≤ gg ∧ s1 = .int .i64 (a + total (xs.take i)) ∧ s5 = .int .i64 i ∧ Aside0 (Kd.S kB 38 wr w0.heap.size ok (.slice (some ⟨g, 0, none⟩) xs.length cap) (part a xs i)) ∧ Aside0 (Below w0.heap.size w0 wr) ∧ Aside0 (Kept w wr ok))
    case atStart => exact ⟨0, by omega, by omega, by simp [total], rfl, ⟨HH.out⟩, ⟨HB0.out⟩, ⟨Kept.refl _ _⟩⟩
    case round =>
      obtain ⟨i, hi, hg, rfl, rfl, HS, HB, HK⟩ := hrel
      by_cases hlt : i < xs.length
      · have hltz : (i : Int) < (xs.length : Int) := by omega
        obtain ⟨oki, c, hcl, hM, hcell, hoki, hH⟩ := Kd.S_lend HS.out [] (i : Int) (by omega) (by omega)
        rw [Int.toNat_natCast, part_get a xs i hlt] at hM
        obtain ⟨u, rfl, hR⟩ := hM
        have hc0 := hcell 0 u rfl
        rw [Int.toNat_natCast] at hc0
        have hc1 : wr.cell? ⟨g, i, none⟩ = some u := by simpa [kB, Kd.slice] using hc0
        have htt := total_take xs (i + 1)
        rw [take_snoc xs i hlt, total_snoc] at htt
        have hcall := markB_calls oki u (xs.getD i []) (a + total (xs.take i)) w0 wr HB.out hR (by omega) (by have := HL.out; omega)
        have HH2 := Aside0.mk hH
        have HO := Aside0.mk hoki
        clear hcell hc0 hH hoki hR
        generalize hx : xs.getD i [] = x at hcall htt
        have HX := Aside0.mk hx
        clear hx
        go_wp2_with (go_at_call 23; refine hcall.mono ?_; rintro e w' ⟨rfl, hR', hB', hK'⟩)
        go_roundg (xs.length - (i + 1))
        case measure => omega
        case rel =>
          refine ⟨i + 1, by omega, by omega, ?_, by go_num, ⟨?_⟩, ⟨hB'⟩, ⟨HK.out.then_ hK' (fun k hk => .inl (HO.out k hk).1)⟩⟩
          · rw [take_snoc xs i hlt, total_snoc, HX.out]
            congr 1
            omega
          · have h1 := Kd.H_back (Kd.H_step HH2.out (fun k hk hn hl => hK'.2 k hl hn)) (x' := markL (a + total (xs.take i)) x) ⟨u, rfl, hR'⟩ (fun _ hk => hk)
            rw [Int.toNat_natCast, ← HX.out, part_set a xs i hlt] at h1
            exact h1
      · obtain rfl : i = xs.length := by omega
        go_wp2
        go_ret
        refine ⟨by rw [List.take_length]; rfl, ?_, HB.out, HK.out⟩
        have := HS.out
        unfold part at this
        rw [List.take_length, List.drop_length, List.append_nil] at this
        exact this
end Go.Proofs.Ytnpmkcbbmeekaaa.Mark
