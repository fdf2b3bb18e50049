import Derived.Test.YtmgmdnmfalepkaaHelpB
import Derived.Test.YtmgmdnmfalepkaaLby
namespace Go.Proofs.Ytmgmdnmfalepkaa.HelpBB
open Go.RowKit Go.Proofs.YtmgmdnmfalepkaaW.PrintWords Go.Proofs.YtmgmdnmfalepkaaW.PrintMore Go.Proofs.Ytmgmdnmfalepkaa.Kit Go.Proofs.Ytmgmdnmfalepkaa.PKit Go.Proofs.Ytmgmdnmfalepkaa.Ty Go.Proofs.Ytmgmdnmfalepkaa.HelpB
open Go.Proofs.Ytmgmdnmfalepkaa.L
set_option linter.unusedVariables false
abbrev kB := Kd.slice 5 (Kd.int .u8)
abbrev tBB : Ty (List (List Int)) := Ty.rows kB 33
def totalB : List (List Int) → Nat
  | [] => 0
  | x :: r => x.length + totalB r
abbrev cntBB (x : List (List Int)) : Nat := totalB x
abbrev bdBB (x : List (List Int)) : Prop := x.length ≤ 1099511627776 ∧ totalB x ≤ 1099511627776
abbrev smallBB (x : List (List Int)) : Prop := x.length + totalB x ≤ 1048576
theorem bd_small {x : List (List Int)} (h : smallBB x) : bdBB x := ⟨by have : x.length + totalB x ≤ 1048576 := h; omega, by have : x.length + totalB x ≤ 1048576 := h; omega⟩
theorem cnt_small {x : List (List Int)} (h : smallBB x) : cntBB x ≤ 1048576 := by have : x.length + totalB x ≤ 1048576 := h; show totalB x ≤ _; omega
def markBB (a : Int) : List (List Int) → List (List Int)
  | [] => []
  | x :: r => markB a x :: markBB (a + x.length) r
def part (a : Int) (xs : List (List Int)) (i : Nat) : List (List Int) := markBB a (xs.take i) ++ xs.drop i
theorem markBB_len (xs : List (List Int)) : ∀ a, (markBB a xs).length = xs.length := by
  induction xs with
  | nil => intro a; rfl
  | cons x r ih => intro a; simp [markBB, ih]
theorem mark_snoc (xs : List (List Int)) (x : List Int) : ∀ a, markBB a (xs ++ [x]) = markBB a xs ++ [markB (a + totalB xs) x] := by
  induction xs with
  | nil => intro a; simp [markBB, totalB]
  | cons y r ih =>
    intro a
    simp only [List.cons_append, markBB, ih, totalB]
    congr 4
    omega
theorem total_snoc (xs : List (List Int)) (x : List Int) : totalB (xs ++ [x]) = totalB xs + x.length := by
  induction xs with
  | nil => simp [totalB]
  | cons y r ih => simp only [List.cons_append, totalB, ih]; omega
theorem total_append (xs ys : List (List Int)) : totalB (xs ++ ys) = totalB xs + totalB ys := by
  induction xs with
  | nil => simp [totalB]
  | cons y r ih => simp only [List.cons_append, totalB, ih]; omega
theorem take_snoc (xs : List (List Int)) (i : Nat) (hi : i < xs.length) : xs.take (i + 1) = xs.take i ++ [xs.getD i []] := by
  rw [List.take_succ_eq_append_getElem hi]
  simp [List.getD, List.getElem?_eq_getElem hi]
theorem part_get (a : Int) (xs : List (List Int)) (i : Nat) (hi : i < xs.length) : (part a xs i).getD i [] = xs.getD i [] := by
  unfold part
  have hl : (markBB a (xs.take i)).length = i := by rw [markBB_len, List.length_take]; omega
  simp only [List.getD]
  rw [List.getElem?_append_right (by omega), hl, Nat.sub_self, List.getElem?_drop]
  rfl
theorem part_set (a : Int) (xs : List (List Int)) (i : Nat) (hi : i < xs.length) : (part a xs i).set i (markB (a + totalB (xs.take i)) (xs.getD i [])) = part a xs (i + 1) := by
  unfold part
  have hl : (markBB a (xs.take i)).length = i := by rw [markBB_len, List.length_take]; omega
  rw [List.set_append_right _ _ (by omega), hl, Nat.sub_self, take_snoc xs i hi, mark_snoc, List.append_assoc]
  have hd : xs.drop i = xs.getD i [] :: xs.drop (i + 1) := by
    rw [List.drop_eq_getElem_cons hi]
    simp [List.getD, List.getElem?_eq_getElem hi]
  rw [hd]
  rfl
theorem total_take (xs : List (List Int)) (i : Nat) : totalB (xs.take i) ≤ totalB xs := by
  induction xs generalizing i with
  | nil => simp [totalB]
  | cons x r ih =>
    cases i with
    | zero => simp [totalB]
    | succ i => simp only [List.take_succ_cons, totalB]; have := ih i; omega
theorem total_mem {xs : List (List Int)} {x : List Int} (h : x ∈ xs) : x.length ≤ totalB xs := by
  induction xs with
  | nil => cases h
  | cons y r ih =>
    simp only [totalB]
    rcases List.mem_cons.1 h with e | h
    · subst e; omega
    · have := ih h; omega
theorem rdL_mem (xs : List (List Int)) (i : Nat) (h : i < xs.length) : rd_L1 xs (i : Int) ∈ xs := by
  have e : rd_L1 xs (i : Int) = xs[i] := by simp [rd_L1, List.getD, List.getElem?_eq_getElem h]
  rw [e]
  exact List.getElem_mem _
theorem to_ev (l : List (List Int)) (hl : l.length ≤ 11728124029610) (hx : totalB l ≤ 35184372088832) : Ev (fun k => laws_toByteSS.f k l) l := by
  have key : ∀ (d i : Nat) (out : List (List Int)), i + d = l.length → out.length = l.length → out.take i = l.take i → Ev (fun k => laws_toByteSS.l0 k l out i) l := by
    intro d
    induction d with
    | zero =>
      intro i out hd ho ht
      rw [List.take_of_length_le (by omega), List.take_of_length_le (by omega)] at ht
      subst ht
      refine Ev.step (f := fun _ => some out) (fun k => ?_) (Ev.now _)
      simp only [laws_toByteSS.l0]
      rw [if_neg (by omega)]
    | succ d ih =>
      intro i out hd ho ht
      have hm := rdL_mem l i (by omega)
      obtain ⟨K1, g1⟩ := HelpB.to_ev (rd_L1 l (i : Int)) (by have := total_mem hm; omega)
      obtain ⟨K2, g2⟩ := ih (i + 1) (out.set i (rd_L1 l (i : Int))) (by omega) (by simp [ho]) (set_take l out i _ (by omega) ho ht (by simp [rd_L1, List.getD, List.getElem?_eq_getElem (show i < l.length by omega)]))
      refine ⟨K1 + K2 + 1, fun n hn => ?_⟩
      obtain ⟨n, rfl⟩ : ∃ m, n = m + 1 := ⟨n - 1, by omega⟩
      have g1' := g1 n (by omega)
      have g2' := g2 n (by omega)
      simp only at g1' g2'
      simp only [laws_toByteSS.l0]
      rw [if_pos (by omega), if_pos (by omega), g1', Option.bind_some, if_pos (by omega), wrap_succ i (by omega), Int.toNat_natCast, g2']
  refine Ev.congr (fun k => ?_) (key l.length 0 (List.replicate l.length []) (by omega) (by simp) (by simp))
  simp only [laws_toByteSS.f]
  rw [if_pos (by omega), if_pos (by omega), Int.toNat_natCast]
  rfl
theorem eq_ev (xs : List (List Int)) (hl : xs.length ≤ 1099511627776) (ht : totalB xs ≤ 35184372088832) : Ev (fun k => laws_eqByteSS.f k xs xs) true := by
  have key : ∀ (d i : Nat), i + d = xs.length → Ev (fun k => laws_eqByteSS.l0 k xs xs i) true := by
    intro d
    induction d with
    | zero =>
      intro i hd
      refine Ev.step (f := fun _ => some true) (fun k => ?_) (Ev.now _)
      simp only [laws_eqByteSS.l0]
      rw [if_neg (by omega)]
    | succ d ih =>
      intro i hd
      obtain ⟨K1, g1⟩ := HelpB.eq_ev (rd_L1 xs (i : Int)) (by have := total_mem (rdL_mem xs i (by omega)); omega)
      obtain ⟨K2, g2⟩ := ih (i + 1) (by omega)
      refine ⟨K1 + K2 + 1, fun n hn => ?_⟩
      obtain ⟨n, rfl⟩ : ∃ m, n = m + 1 := ⟨n - 1, by omega⟩
      have g1' := g1 n (by omega)
      have g2' := g2 n (by omega)
      simp only at g1' g2'
      simp only [laws_eqByteSS.l0]
      rw [if_pos (by omega), if_pos (by omega), if_pos (by omega), g1', Option.bind_some, if_pos rfl, wrap_succ i (by omega), g2']
  refine Ev.congr (fun k => ?_) (key xs.length 0 (by omega))
  simp only [laws_eqByteSS.f]
  rw [if_pos trivial]
  rfl
theorem held_ev (xs : List (List Int)) (a : Int) (a0 : 0 ≤ a) (a1 : a + totalB xs ≤ 1099511627776) (hl : xs.length ≤ 1099511627776) : Ev (fun k => laws_heldByteSS.f k (markBB a xs) a) (a + totalB xs) := by
  have key : ∀ (r : List (List Int)) (p : List (List Int)) (b : Int), 0 ≤ b → b + totalB r ≤ 1099511627776 → p.length + r.length ≤ 1099511627776 → Ev (fun k => laws_heldByteSS.l0 k (p ++ markBB b r) b (p.length : Int)) (b + totalB r) := by
    intro r
    induction r with
    | nil =>
      intro p b b0 b1 hp
      have e : (b + ((totalB [] : Nat) : Int)) = b := by simp [totalB]
      rw [e]
      refine Ev.step (f := fun _ => some b) (fun k => ?_) (Ev.now _)
      simp only [laws_heldByteSS.l0]
      rw [if_neg (by simp [markBB])]
    | cons x r ih =>
      intro p b b0 b1 hp
      simp only [List.length_cons, totalB] at b1 hp
      obtain ⟨K2, g2⟩ := ih (p ++ [markB b x]) (b + x.length) (by omega) (by omega) (by simp; omega)
      obtain ⟨K1, g1⟩ := HelpB.held_ev x b b0 (by omega)
      refine ⟨K1 + K2 + 1, fun n hn => ?_⟩
      obtain ⟨n, rfl⟩ : ∃ m, n = m + 1 := ⟨n - 1, by omega⟩
      have g1' := g1 n (by omega)
      have g2' := g2 n (by omega)
      simp only at g1' g2'
      simp only [laws_heldByteSS.l0]
      have hg : rd_L1 (p ++ markBB b (x :: r)) (p.length : Int) = markB b x := by simp [rd_L1, markBB]
      rw [if_pos (by simp [markBB]; omega), if_pos (by omega), hg, g1', Option.bind_some, if_neg (by omega), wrap_succ _ (by omega)]
      have e1 : p ++ markBB b (x :: r) = p ++ [markB b x] ++ markBB (b + x.length) r := by simp [markBB]
      have e2 : ((p.length + 1 : Nat) : Int) = (((p ++ [markB b x]).length : Nat) : Int) := by simp
      rw [e1, e2, g2']
      simp only [totalB]
      congr 1
      omega
  have h := key xs [] a a0 a1 (by simp; omega)
  exact Ev.congr (fun k => by simp only [laws_heldByteSS.f]; rfl) h
theorem to_calls (x : List (List Int)) (v : Value) (w : World) (h : tBB.K w x v) (hb : bdBB x) :
    Calls Try.prog 39 #[v] w fun e w' => ∃ v', e = .returned v' ∧ tBB.M w' w.heap.size (fun _ => True) x v' ∧ Grew w w' := by
  obtain ⟨hl, ht⟩ := hb
  obtain ⟨A, c, rfl, hc, hr⟩ := h
  obtain ⟨k, hk⟩ := (to_ev x (by omega) (by omega)).rounds
  exact laws_toByteSS.calls k A c x x w hr hc hk
theorem eq_calls (x : List (List Int)) (v v' : Value) (w : World) (h : tBB.K w x v) (h' : tBB.K w x v') (hb : bdBB x) :
    Calls Try.prog 41 #[v, v'] w fun e w' => e = .returned (.bool true) ∧ Grew w w' := by
  obtain ⟨hl, ht⟩ := hb
  obtain ⟨A, c, rfl, hc, hr⟩ := h
  obtain ⟨A', c', rfl, hc', hr'⟩ := h'
  obtain ⟨k, hk⟩ := (eq_ev x (by omega) (by omega)).rounds
  refine (laws_eqByteSS.calls k A c x A' c' x true w hr hc hr' hc' hk).mono ?_
  rintro e w' ⟨rfl, h2⟩
  exact ⟨rfl, h2.below⟩
set_option maxRecDepth 100000 in
set_option maxHeartbeats 2000000 in
theorem mark_calls (xs : List (List Int)) (v : Value) (ok : Nat → Prop) (a : Int) (w0 w : World) (hB : Below w0.heap.size w0 w) (h : tBB.M w w0.heap.size ok xs v) (a0 : 0 ≤ a) (a1 : a + cntBB xs ≤ 1099511627776) (hb : bdBB xs) :
    Calls Try.prog 42 #[v, .int .i64 a] w fun e w' => e = .returned (.int .i64 (a + cntBB xs)) ∧ tBB.M w' w0.heap.size ok (markBB a xs) v ∧ Below w0.heap.size w0 w' ∧ Kept w w' ok := by
  have h : Kd.S kB 33 w w0.heap.size ok v xs := h
  obtain ⟨hlen, _⟩ := hb
  by_cases hz : xs.length = 0
  · obtain rfl := List.length_eq_zero_iff.1 hz
    obtain ⟨A, c, rfl⟩ := Kd.S_slice h
    have HH := Aside0.mk h
    have HB := Aside0.mk hB
    clear h hB hz hlen
    simp only [List.length_nil]
    go_enter Try.func42, Try.ntmps42
    go_wp2
    go_loopg [1, 5] 0 (fun gg s1 s5 wr => s1 = .int .i64 a ∧ s5 = .int .i64 0 ∧ wr = w)
    case atStart => exact ⟨rfl, rfl, rfl⟩
    case round =>
      obtain ⟨rfl, rfl, rfl⟩ := hrel
      go_wp2
      go_ret
      exact ⟨by simp [totalB], HH.out, HB.out, Kept.refl _ _⟩
  · obtain ⟨g, cap, rfl, _, _, _⟩ := Kd.S_form h (by omega)
    have HH := Aside0.mk h
    have HB0 := Aside0.mk hB
    have HL := Aside0.mk (show a + (totalB xs : Int) ≤ 1099511627776 from a1)
    clear h hB
    go_enter Try.func42, Try.ntmps42
    go_wp2
    go_loopg [1, 5] xs.length (fun gg s1 s5 wr => ∃ i : Nat, i ≤ xs.length ∧ xs.length - i ≤ gg ∧ s1 = .int .i64 (a + totalB (xs.take i)) ∧ s5 = .int .i64 i ∧ Aside0 (Kd.S kB 33 wr w0.heap.size ok (.slice (some ⟨g, 0, none⟩) xs.length cap) (part a xs i)) ∧ Aside0 (Below w0.heap.size w0 wr) ∧ Aside0 (Kept w wr ok))
    case atStart => exact ⟨0, by omega, by omega, by simp [totalB], rfl, ⟨HH.out⟩, ⟨HB0.out⟩, ⟨Kept.refl _ _⟩⟩
    case round =>
      obtain ⟨i, hi, hg, rfl, rfl, HS, HB, HK⟩ := hrel
      by_cases hlt : i < xs.length
      · have hltz : (i : Int) < (xs.length : Int) := by omega
        obtain ⟨oki, c, hcl, hM, hcell, hoki, hH⟩ := Kd.S_lend HS.out [] (i : Int) (by omega) (by omega)
        rw [Int.toNat_natCast, part_get a xs i hlt] at hM
        obtain ⟨u, rfl, hR⟩ := hM
        have hc0 := hcell 0 u rfl
        rw [Int.toNat_natCast] at hc0
        have hc1 : wr.cell? ⟨g, i, none⟩ = some u := by simpa [kB, Kd.slice] using hc0
        have htt := total_take xs (i + 1)
        rw [take_snoc xs i hlt, total_snoc] at htt
        have hcall := HelpB.mark_calls (xs.getD i []) u oki (a + totalB (xs.take i)) w0 wr HB.out hR (by omega) (by have := HL.out; show a + (totalB (xs.take i) : Int) + ((xs.getD i []).length : Int) ≤ _; omega) (by have := HL.out; show (xs.getD i []).length ≤ _; omega)
        have HH2 := Aside0.mk hH
        have HO := Aside0.mk hoki
        clear hcell hc0 hH hoki hR
        generalize hx : xs.getD i [] = x at hcall htt
        have HX := Aside0.mk hx
        clear hx
        go_wp2_with (go_at_call 24; refine hcall.mono ?_; rintro e w' ⟨rfl, hR', hB', hK'⟩)
        go_roundg (xs.length - (i + 1))
        case measure => omega
        case rel =>
          refine ⟨i + 1, by omega, by omega, ?_, by go_num, ⟨?_⟩, ⟨hB'⟩, ⟨HK.out.then_ hK' (fun k hk => .inl (HO.out k hk).1)⟩⟩
          · show Value.int .i64 (a + (totalB (xs.take i) : Int) + (x.length : Int)) = _
            rw [take_snoc xs i hlt, total_snoc, HX.out]
            congr 1
            omega
          · have h1 := Kd.H_back (Kd.H_step HH2.out (fun k hk hn hl => hK'.2 k hl hn)) (x' := markB (a + totalB (xs.take i)) x) ⟨u, rfl, hR'⟩ (fun _ hk => hk)
            rw [Int.toNat_natCast, ← HX.out, part_set a xs i hlt] at h1
            exact h1
      · obtain rfl : i = xs.length := by omega
        go_wp2
        go_ret
        refine ⟨by rw [List.take_length]; rfl, ?_, HB.out, HK.out⟩
        have := HS.out
        unfold part at this
        rw [List.take_length, List.drop_length, List.append_nil] at this
        exact this
theorem held_calls (xs : List (List Int)) (v : Value) (a : Int) (w : World) (h : tBB.K w (markBB a xs) v) (a0 : 0 ≤ a) (a1 : a + cntBB xs ≤ 1099511627776) (hb : bdBB xs) :
    Calls Try.prog 98 #[v, .int .i64 a] w fun e w' => e = .returned (.int .i64 (a + cntBB xs)) ∧ Grew w w' := by
  obtain ⟨A, c, rfl, hc, hr⟩ := h
  obtain ⟨k, hk⟩ := (held_ev xs a a0 a1 hb.1).rounds
  refine (laws_heldByteSS.calls k A c (markBB a xs) a _ w hr hc hk).mono ?_
  rintro e w' ⟨rfl, h2⟩
  exact ⟨rfl, h2.below⟩
end Go.Proofs.Ytmgmdnmfalepkaa.HelpBB
