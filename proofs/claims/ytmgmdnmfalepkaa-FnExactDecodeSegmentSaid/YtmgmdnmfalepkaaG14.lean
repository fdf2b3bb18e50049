/- Parts of the proof (see the row's own text): PDecS, DecA, EncA, DecB, PSort, SortI, Iter, MapG. -/
import Derived.Test.YtmgmdnmfalepkaaG12
import Derived.Lib.Bytes
import Derived.Test.YtmgmdnmfalepkaaG13
import Derived.Test.YtmgmdnmfalepkaaG10
import Derived.Test.YtmgmdnmfalepkaaG4
import Derived.Deep.RegionLaw
import Derived.Deep.RegionHeld3
import Derived.Test.YtmgmdnmfalepkaaG5
import Derived.Test.YtmgmdnmfalepkaaG2
import Derived.Lib.SlicesCompact
import Derived.Sort.OwnSortedInts
import Derived.Shelf.SlIterI.Nil
import Derived.Ground.GgzProg
import Derived.Test.YtmgmdnmfalepkaaProg
import Derived.Maps.OwnRows
import Derived.Maps.OwnIn
namespace Go.Proofs.Ytmgmdnmfalepkaa.PDec
open Go.RowKit Go.Proofs.YtmgmdnmfalepkaaW.PrintWords Go.Proofs.Ytmgmdnmfalepkaa.PKit Go.Proofs.Ytmgmdnmfalepkaa.PSeg Go.Proofs.Ytmgmdnmfalepkaa.PEnc Go.Proofs.Ytmgmdnmfalepkaa.L Go.Proofs.Ytmgmdnmfalepkaa.HelpBB
set_option linter.unusedVariables false
def readV (n : Nat) (o : Option (Nat × List Int)) : Int × Int := match o with
  | some q => ((q.1 : Int), ((n - q.2.length : Nat) : Int))
  | none => (0, -1)
theorem getD_drop (b : List Int) (i : Nat) (h : i < b.length) : b.drop i = b.getD i 0 :: b.drop (i + 1) := by
  rw [List.drop_eq_getElem_cons h]
  simp [List.getD, List.getElem?_eq_getElem h]
theorem read_ev (b : List Int) (i : Nat) (hb : ∀ x ∈ b, 0 ≤ x ∧ x ≤ 255) (hl : b.length ≤ 1048576) (hi : i ≤ b.length) : Ev (fun k => spec_l4read.f k b (i : Int)) (readV b.length (rdNum 4 (b.drop i))) := by
  have key : ∀ (d j v p : Nat), j + d = 4 → ((j = 0 ∧ p = 1) ∨ (j = 1 ∧ p = 128) ∨ (j = 2 ∧ p = 16384) ∨ (j = 3 ∧ p = 2097152) ∨ j = 4) → v < p → Ev (fun k => spec_l4read.l0 k b (i : Int) (v : Int) (p : Int) (j : Int)) (readV b.length ((rdNum d (b.drop (i + j))).map fun q => (v + p * q.1, q.2))) := by
    intro d
    induction d with
    | zero =>
      intro j v p hj hp hv
      refine Ev.step (f := fun _ => some ((0 : Int), (-1 : Int))) (fun k => ?_) (Ev.now _)
      simp only [spec_l4read.l0]
      rw [if_neg (by omega)]
    | succ d ih =>
      intro j v p hj hp hv
      have HW := Aside0.mk (show wrap64 ((i : Int) + (j : Int)) = ((i + j : Nat) : Int) from by rw [wrap_in (by omega)]; omega)
      have hpb : p ≤ 2097152 := by omega
      have hp1 : ((j + 1 = 0 ∧ p * 128 = 1) ∨ (j + 1 = 1 ∧ p * 128 = 128) ∨ (j + 1 = 2 ∧ p * 128 = 16384) ∨ (j + 1 = 3 ∧ p * 128 = 2097152) ∨ j + 1 = 4) := by omega
      have HP1 := Aside0.mk hp1
      clear hp1
      clear hp
      by_cases hlt : i + j < b.length
      · rw [getD_drop b (i + j) hlt]
        obtain ⟨c0, c1⟩ := hb (b.getD (i + j) 0) (by rw [getD_get b (i + j) hlt]; exact List.getElem_mem hlt)
        have hrd : rd b ((i + j : Nat) : Int) = b.getD (i + j) 0 := rfl
        generalize b.getD (i + j) 0 = c at c0 c1 hrd ⊢
        have HC := Aside0.mk (show wrap64 c = c from wrap_in (by omega))
        obtain ⟨n, rfl⟩ : ∃ n : Nat, c = (n : Int) := ⟨c.toNat, by omega⟩
        have hm : n % 128 * p ≤ 127 * p := Nat.mul_le_mul_right _ (by omega)
        have hm' : Int.tmod (n : Int) 128 * (p : Int) = ((n % 128 * p : Nat) : Int) := by
          have : Int.tmod (n : Int) 128 = ((n % 128 : Nat) : Int) := rfl
          rw [this, ← Int.natCast_mul]
        have HV := Aside0.mk (show wrap64 ((v : Int) + wrap64 (Int.tmod (n : Int) 128 * (p : Int))) = ((v + n % 128 * p : Nat) : Int) from by
          rw [hm']
          generalize n % 128 * p = z at hm
          rw [wrap_in (x := (z : Int)) (by omega), wrap_in (by omega)]
          omega)
        clear hm'
        by_cases h128 : n < 128
        · have hz : (n : Int) < 128 := by omega
          have e : rdNum (d + 1) ((n : Int) :: b.drop (i + j + 1)) = some (n, b.drop (i + j + 1)) := by
            show (if (n : Int) < 128 then _ else _) = _
            rw [if_pos hz, Int.toNat_natCast]
          rw [e]
          refine Ev.step (f := fun _ => some (((v + n % 128 * p : Nat) : Int), ((i + j + 1 : Nat) : Int))) (fun k => ?_) ?_
          · simp only [spec_l4read.l0]
            rw [HW.out, if_pos (by omega), if_neg (by omega), if_pos (by omega), if_pos (by omega), hrd, HC.out, if_pos hz, HV.out, wrap_succ (i + j) (by omega)]
          · have e2 : readV b.length ((some (n, b.drop (i + j + 1))).map fun q => (v + p * q.1, q.2)) = (((v + n % 128 * p : Nat) : Int), ((i + j + 1 : Nat) : Int)) := by
              unfold readV
              simp only [Option.map_some, List.length_drop]
              have hsub : b.length - (b.length - (i + j + 1)) = i + j + 1 := by omega
              rw [Nat.mod_eq_of_lt h128, Nat.mul_comm n, hsub]
            rw [e2]
            exact Ev.now _
        · have hz : ¬ (n : Int) < 128 := by omega
          have e : rdNum (d + 1) ((n : Int) :: b.drop (i + j + 1)) = (rdNum d (b.drop (i + j + 1))).map fun q => (n % 128 + 128 * q.1, q.2) := by
            show (if (n : Int) < 128 then _ else _) = _
            rw [if_neg hz, Int.toNat_natCast]
          have e2 : ((rdNum (d + 1) ((n : Int) :: b.drop (i + j + 1))).map fun q => (v + p * q.1, q.2)) = (rdNum d (b.drop (i + (j + 1)))).map fun q => ((v + n % 128 * p) + (p * 128) * q.1, q.2) := by
            rw [e, Option.map_map, Nat.add_assoc i j 1]
            refine congrArg (fun f => Option.map f _) (funext fun q => ?_)
            simp only [Function.comp]
            rw [Nat.mul_add, ← Nat.mul_assoc, Nat.mul_comm (n % 128), Nat.add_assoc]
          rw [e2]
          have hlt2 : v + n % 128 * p < p * 128 := by
            generalize n % 128 * p = z at hm
            omega
          refine Ev.step (fun k => ?_) (ih (j + 1) (v + n % 128 * p) (p * 128) (by omega) HP1.out hlt2)
          simp only [spec_l4read.l0]
          rw [HW.out, if_pos (by omega), if_neg (by omega), if_pos (by omega), if_pos (by omega), hrd, HC.out, if_neg hz, HV.out, wrap_succ j (by omega)]
          rw [wrap_in (x := (p : Int) * 128) (by omega)]
          rfl
      · have e : b.drop (i + j) = [] := List.drop_of_length_le (by omega)
        rw [e]
        refine Ev.step (f := fun _ => some ((0 : Int), (-1 : Int))) (fun k => ?_) (Ev.now _)
        simp only [spec_l4read.l0]
        rw [HW.out, if_pos (by omega), if_pos (by omega)]
  have h := key 4 0 0 1 rfl (.inl ⟨rfl, rfl⟩) (by decide)
  have e : ((rdNum 4 (b.drop (i + 0))).map fun q => (0 + 1 * q.1, q.2)) = rdNum 4 (b.drop i) := by
    rw [Nat.add_zero]
    cases rdNum 4 (b.drop i) with
    | none => rfl
    | some q => simp
  rw [e] at h
  exact Ev.congr (fun k => by simp only [spec_l4read.f]; rfl) h
def linesV (base : Int) (acc : List (List Int)) (o : Option (List (List Int) × List Int)) : Int × List (List Int) × Bool := match o with
  | some q => (base, acc ++ q.1, true)
  | none => (0, [], false)
theorem lines_ev (b : List Int) (hb : ∀ x ∈ b, 0 ≤ x ∧ x ≤ 255) (hl : b.length ≤ 1048576) : Ev (fun k => spec_l4lines.f k b) (match specP b with | some q => (q.1, q.2, true) | none => (0, [], false)) := by
  have L0 : ∀ (base : Int) (n pos0 : Nat) (d j pos : Nat) (acc : List (List Int)), n ≤ 1000 → j + d = n → pos ≤ b.length → acc.length = j → Ev (fun k => spec_l4lines.l0 k b base (n : Int) (pos : Int) acc (j : Int)) (linesV base acc (rdLines 4 d (b.drop pos))) := by
    intro base n pos0 d
    induction d with
    | zero =>
      intro j pos acc hn hj hp ha
      refine Ev.step (f := fun _ => some (base, acc, true)) (fun k => ?_) (by unfold linesV rdLines; simp only [List.append_nil]; exact Ev.now _)
      simp only [spec_l4lines.l0]
      rw [if_neg (by omega)]
    | succ d ih =>
      intro j pos acc hn hj hp ha
      have hr := read_ev b pos hb hl hp
      have e : rdLines 4 (d + 1) (b.drop pos) = (rdLine 4 (b.drop pos)).bind fun q => (rdLines 4 d q.2).map fun p => (q.1 :: p.1, p.2) := rfl
      rw [e]
      unfold rdLine
      have hs : ∀ k : Nat, spec_l4lines.l0 (k + 1) b base (n : Int) (pos : Int) acc (j : Int) = _ := fun k => by
        simp only [spec_l4lines.l0]
        rw [if_pos (by omega)]
      refine Ev.step hs (Ev.bind hr ?_)
      cases hq : rdNum 4 (b.drop pos) with
      | none =>
        have e1 : readV b.length (none : Option (Nat × List Int)) = (0, -1) := rfl
        rw [e1]
        refine Ev.congr (f := fun _ => some _) (fun k => ?_) (Ev.now _)
        rw [if_pos (by decide)]
        rfl
      | some q =>
        obtain ⟨m, r⟩ := q
        obtain ⟨q1, mm, q2, q3, q4, q5⟩ := rdNum_some 4 (b.drop pos) m r (bytes_drop hb pos) hq
        rw [List.length_drop] at q4
        rw [List.drop_drop] at q5
        have hlr : r.length = b.length - (pos + mm) := by rw [q5, List.length_drop]
        have hm4 : m < 268435456 := Nat.lt_of_lt_of_le q1 (by decide)
        clear q1
        have e1 : readV b.length (some (m, r)) = ((m : Int), ((pos + mm : Nat) : Int)) := by
          have hsub : b.length - r.length = pos + mm := by omega
          unfold readV
          simp only
          rw [hsub]
        rw [e1]
        have HW1 := Aside0.mk (show wrap64 ((b.length : Int) - ((pos + mm : Nat) : Int)) = ((b.length - (pos + mm) : Nat) : Int) from by rw [wrap_in (by omega)]; omega)
        have HW2 := Aside0.mk (show wrap64 (((pos + mm : Nat) : Int) + (m : Int)) = ((pos + mm + m : Nat) : Int) from by rw [wrap_in (by omega)]; omega)
        by_cases hm : m ≤ r.length
        · have hR : ((some (m, r)).bind fun q => if q.1 ≤ q.2.length then some (q.2.take q.1, q.2.drop q.1) else none) = some (r.take m, b.drop (pos + mm + m)) := by
            rw [Option.bind_some]
            simp only
            rw [if_pos hm, q5, List.drop_drop]
          rw [hR]
          have hnext := ih (j + 1) (pos + mm + m) (acc ++ [r.take m]) hn (by omega) (by omega) (by simp [ha])
          have hV : linesV base acc ((some (r.take m, b.drop (pos + mm + m))).bind fun q => (rdLines 4 d q.2).map fun p => (q.1 :: p.1, p.2)) = linesV base (acc ++ [r.take m]) (rdLines 4 d (b.drop (pos + mm + m))) := by
            rw [Option.bind_some]
            cases rdLines 4 d (b.drop (pos + mm + m)) with
            | none => rfl
            | some p => unfold linesV; simp
          rw [hV]
          have hcut : (b.take (pos + mm + m)).drop (pos + mm) = r.take m := by
            rw [List.drop_take, q5]
            congr 1
            omega
          refine Ev.congr (fun k => ?_) hnext
          simp only
          rw [if_neg (by omega), HW1.out, HW2.out, if_neg (by omega), if_pos (by omega), if_pos (by omega), if_pos (by omega), Int.toNat_natCast, Int.toNat_natCast, hcut, if_pos (by simp only [List.length_nil, List.length_take]; omega), if_pos (by omega), List.nil_append, wrap_succ j (by omega)]
        · have hR : ((some (m, r)).bind fun q => if q.1 ≤ q.2.length then some (q.2.take q.1, q.2.drop q.1) else none) = none := by
            rw [Option.bind_some]
            simp only
            rw [if_neg hm]
          rw [hR]
          refine Ev.congr (f := fun _ => some _) (fun k => ?_) (Ev.now _)
          simp only
          rw [if_neg (by omega), HW1.out, if_pos (by omega)]
          rfl
  by_cases h2 : b.length < 2
  · have e : specP b = none := by unfold specP; rw [if_pos h2]
    rw [e]
    refine Ev.congr (f := fun _ => some _) (fun k => ?_) (Ev.now _)
    simp only [spec_l4lines.f]
    rw [if_pos (by omega)]
  · have e : specP b = rdHead 4 (b.drop 2) := by unfold specP; rw [if_neg h2]
    rw [e]
    unfold rdHead
    have hr := read_ev b 2 hb hl (by omega)
    refine Ev.congr (f := fun k => (spec_l4read.f k b ((2 : Nat) : Int)).bind fun bt447 => (if bt447.2 < 0 then (some (0, ([] : List (List Int)), false)) else ((spec_l4read.f k b bt447.2).bind fun bt449 => (if bt449.2 < 0 then (spec_l4lines.j0 k b bt447.1 bt449.1 bt449.2 true) else (spec_l4lines.j0 k b bt447.1 bt449.1 bt449.2 (decide (bt449.1 > 1000))))))) (fun k => by simp only [spec_l4lines.f]; rw [if_neg (by omega)]; rfl) (Ev.bind hr ?_)
    cases hq : rdNum 4 (b.drop 2) with
    | none =>
      refine Ev.congr (f := fun _ => some _) (fun k => ?_) (Ev.now _)
      have e1 : readV b.length (none : Option (Nat × List Int)) = (0, -1) := rfl
      rw [e1, if_pos (by decide)]
      rfl
    | some q =>
      obtain ⟨m, r⟩ := q
      obtain ⟨q1, mm, q2, q3, q4, q5⟩ := rdNum_some 4 (b.drop 2) m r (bytes_drop hb 2) hq
      rw [List.length_drop] at q4
      rw [List.drop_drop] at q5
      have hlr : r.length = b.length - (2 + mm) := by rw [q5, List.length_drop]
      have e1 : readV b.length (some (m, r)) = ((m : Int), ((2 + mm : Nat) : Int)) := by
        have hsub : b.length - r.length = 2 + mm := by omega
        unfold readV
        simp only
        rw [hsub]
      rw [e1, Option.bind_some]
      simp only
      have hr2 := read_ev b (2 + mm) hb hl (by omega)
      rw [← q5] at hr2
      refine Ev.congr (f := fun k => (spec_l4read.f k b ((2 + mm : Nat) : Int)).bind fun bt449 => (if bt449.2 < 0 then (spec_l4lines.j0 k b (m : Int) bt449.1 bt449.2 true) else (spec_l4lines.j0 k b (m : Int) bt449.1 bt449.2 (decide (bt449.1 > 1000))))) (fun k => by rw [if_neg (by omega)]) (Ev.bind hr2 ?_)
      have J0t : ∀ (x y z : Int), Ev (fun k => spec_l4lines.j0 k b x y z true) (0, [], false) := fun x y z => by
        refine Ev.step (f := fun _ => some _) (fun k => ?_) (Ev.now _)
        simp only [spec_l4lines.j0]
        rw [if_pos trivial]
      cases hq2 : rdNum 4 r with
      | none =>
        have e2 : readV b.length (none : Option (Nat × List Int)) = (0, -1) := rfl
        rw [e2]
        exact Ev.congr (fun k => if_pos (by decide)) (J0t _ _ _)
      | some p =>
        obtain ⟨n, r2⟩ := p
        obtain ⟨p1, m2, p2, p3, p4, p5⟩ := rdNum_some 4 r n r2 (by rw [q5]; exact bytes_drop hb _) hq2
        have p5' : r2 = b.drop (2 + mm + m2) := by rw [p5, q5, List.drop_drop]
        have hlr2 : r2.length = b.length - (2 + mm + m2) := by rw [p5', List.length_drop]
        have e2 : readV b.length (some (n, r2)) = ((n : Int), ((2 + mm + m2 : Nat) : Int)) := by
          have hsub : b.length - r2.length = 2 + mm + m2 := by omega
          unfold readV
          simp only
          rw [hsub]
        rw [e2, Option.bind_some]
        simp only
        by_cases hn : n ≤ 1000
        · rw [if_pos hn]
          have h0 := L0 (m : Int) n 0 n 0 (2 + mm + m2) [] hn (by omega) (by omega) rfl
          rw [← p5'] at h0
          refine Ev.congr (f := fun k => spec_l4lines.j0 k b (m : Int) (n : Int) ((2 + mm + m2 : Nat) : Int) false) (fun k => by rw [if_neg (by omega), decide_eq_false (by omega)]) (Ev.step (fun k => ?_) (f := fun k => spec_l4lines.l0 k b (m : Int) (n : Int) ((2 + mm + m2 : Nat) : Int) [] ((0 : Nat) : Int)) ?_)
          · simp only [spec_l4lines.j0]
            rw [if_neg (by simp)]
            rfl
          · cases hl3 : rdLines 4 n r2 with
            | none => rw [hl3] at h0; exact h0
            | some l => rw [hl3] at h0; exact h0
        · rw [if_neg hn]
          exact Ev.congr (fun k => by rw [if_neg (by omega), decide_eq_true (by omega)]) (J0t _ _ _)
theorem bytesOf_inj : ∀ (x y : List Int), (∀ v ∈ x, 0 ≤ v ∧ v ≤ 255) → (∀ v ∈ y, 0 ≤ v ∧ v ≤ 255) → Go.Lib.bytesOf x = Go.Lib.bytesOf y → x = y := by
  intro x
  induction x with
  | nil =>
    intro y _ _ h
    cases y with
    | nil => rfl
    | cons b t => cases h
  | cons a s ih =>
    intro y hx hy h
    cases y with
    | nil => cases h
    | cons b t =>
      have h' : UInt8.ofNat a.toNat :: Go.Lib.bytesOf s = UInt8.ofNat b.toNat :: Go.Lib.bytesOf t := h
      injection h' with h1 h2
      have ha := hx a (List.mem_cons_self ..)
      have hb := hy b (List.mem_cons_self ..)
      have h3 := congrArg UInt8.toNat h1
      rw [UInt8.toNat_ofNat', UInt8.toNat_ofNat'] at h3
      have : a = b := by omega
      rw [this, ih t (fun v hv => hx v (List.mem_cons_of_mem _ hv)) (fun v hv => hy v (List.mem_cons_of_mem _ hv)) h2]
theorem same_bytes (x y : List Int) (hx : ∀ v ∈ x, 0 ≤ v ∧ v ≤ 255) (hy : ∀ v ∈ y, 0 ≤ v ∧ v ≤ 255) : ((strOfNums x).toList == (strOfNums y).toList) = decide (x = y) := by
  rw [Go.Lib.strOfNums_toList, Go.Lib.strOfNums_toList]
  by_cases h : x = y
  · rw [decide_eq_true h, h]
    simp
  · rw [decide_eq_false h, beq_eq_false_iff_ne]
    exact fun e => h (bytesOf_inj x y hx hy e)
theorem decode_ev (b : List Int) (hb : ∀ x ∈ b, 0 ≤ x ∧ x ≤ 255) (hl : b.length ≤ 1048576) : Ev (fun k => spec_DecodeSegment.f k b) ((dec b).1.1, (dec b).1.2.1, (dec b).1.2.2.1, (dec b).1.2.2.2, (dec b).2) := by
  rw [dec_spec]
  have hln := lines_ev b hb hl
  refine Ev.congr (fun k => by simp only [spec_DecodeSegment.f]) (Ev.bind (f := fun k bt461 => (if bt461.2.2 = true then ((spec_l4fits.f k bt461.1 bt461.2.1).bind fun t466 => (spec_DecodeSegment.j0 k b bt461.1 bt461.2.1 (!t466))) else (spec_DecodeSegment.j0 k b bt461.1 bt461.2.1 true))) hln ?_)
  have J0t : ∀ (x : Int) (y : List (List Int)), Ev (fun k => spec_DecodeSegment.j0 k b x y true) (0, [], [], [], 5) := fun x y => by
    refine Ev.step (f := fun _ => some _) (fun k => ?_) (Ev.now _)
    simp only [spec_DecodeSegment.j0]
    rw [if_pos trivial]
  unfold decBy
  cases hP : specP b with
  | none => exact Ev.congr (fun k => if_neg (by simp)) (J0t _ _)
  | some q =>
    obtain ⟨base, ls⟩ := q
    have hh : rdHead 4 (b.drop 2) = some (base, ls) := by
      unfold specP at hP
      by_cases h2 : b.length < 2
      · rw [if_pos h2] at hP; cases hP
      · rwa [if_neg h2] at hP
    obtain ⟨b0, b1, l1, l2, l3⟩ := rdHead_some 4 (b.drop 2) base ls (bytes_drop hb 2) hh
    rw [List.length_drop] at l2
    have hs : smallBB ls := by show ls.length + totalB ls ≤ 1048576; omega
    have hf := fits_ev base ls hs
    simp only
    cases hft : fits base ls with
    | false =>
      rw [hft] at hf
      refine Ev.congr (f := fun k => (spec_l4fits.f k base ls).bind fun t466 => (spec_DecodeSegment.j0 k b base ls (!t466))) (fun k => if_pos trivial) (Ev.bind hf ?_)
      rw [if_neg (by simp)]
      exact J0t _ _
    | true =>
      rw [hft] at hf
      refine Ev.congr (f := fun k => (spec_l4fits.f k base ls).bind fun t466 => (spec_DecodeSegment.j0 k b base ls (!t466))) (fun k => if_pos trivial) (Ev.bind hf ?_)
      obtain ⟨h1, h2, h3, h4, h5, h6⟩ := fits_parts hft
      have hok := encOk_seg hft l3
      have hsame := same_bytes (code (seg base ls)) b (code_bytes l3) hb
      refine Ev.step (f := fun k => (spec_l4build.f k base ls).bind fun bt467 => ((spec_l4encode.f k bt467.1 bt467.2.1 bt467.2.2.1 bt467.2.2.2).bind fun t478 => ((spec_l4sameBytes.f t478 b).bind fun t481 => (if t481 = true then (some (bt467.1, bt467.2.1, bt467.2.2.1, bt467.2.2.2, 0)) else (some (0, ([] : List (List Int)), ([] : List Int), ([] : List (List Int)), 5)))))) (fun k => ?_) (Ev.bind (build_ev base ls l3 hs h1 h2) (Ev.bind (encode_ev (seg base ls) hok l3) ?_))
      · simp only [spec_DecodeSegment.j0]
        rw [if_neg (by simp)]
      · by_cases hc : code (seg base ls) = b
        · rw [decide_eq_true hc] at hsame
          refine Ev.congr (f := fun _ => some _) (fun k => ?_) (Ev.now _)
          simp only [spec_l4sameBytes.f]
          rw [hsame, Option.bind_some, if_pos rfl, if_pos ⟨trivial, hc⟩]
        · rw [decide_eq_false hc] at hsame
          refine Ev.congr (f := fun _ => some _) (fun k => ?_) (Ev.now _)
          simp only [spec_l4sameBytes.f]
          rw [hsame, Option.bind_some, if_neg (by simp), if_neg (fun h => hc h.2)]
end Go.Proofs.Ytmgmdnmfalepkaa.PDec

namespace Go.Proofs.Ytmgmdnmfalepkaa.DecA
open Go.RowKit Go.Proofs.YtmgmdnmfalepkaaW.PrintWords Go.Proofs.YtmgmdnmfalepkaaW.PrintMore Go.Proofs.Ytmgmdnmfalepkaa.Kit Go.Proofs.Ytmgmdnmfalepkaa.PKit Go.Proofs.Ytmgmdnmfalepkaa.Ty Go.Proofs.Ytmgmdnmfalepkaa.PDec Go.Proofs.Ytmgmdnmfalepkaa.Build Go.Proofs.Ytmgmdnmfalepkaa.HelpBB
set_option linter.unusedVariables false
def St (w0 w : World) (g : Nat) (r : List Int) (bad : Bool) (f2 f3 : Value) : Prop :=
  w0.heap.size ≤ g ∧ Below w0.heap.size w0 w ∧ ∃ A c, w.heap[g]? = some (.cells #[.slice A r.length c, .bool bad, f2, f3] 119 (0, 0)) ∧ Kd.C (Kd.int .u8) w0 A r.length r ∧ r.length ≤ c
theorem St.below {w0 w W : World} {g : Nat} {r : List Int} {bad : Bool} {f2 f3 : Value} (h : St w0 w g r bad f2 f3) (hb : Below w.heap.size w W) : St w0 W g r bad f2 f3 := by
  obtain ⟨h1, h2, A, c, h3, h4, h5⟩ := h
  exact ⟨h1, below_step h2 hb, A, c, blk_below h3 hb, h4, h5⟩
theorem St.cell {w0 w : World} {g : Nat} {r : List Int} {bad : Bool} {f2 f3 : Value} (h : St w0 w g r bad f2 f3) : w.cell? ⟨g, 1, none⟩ = some (.bool bad) ∧ w.frozen? ⟨g, 1, none⟩ = false ∧ w.cell? ⟨g, 2, none⟩ = some f2 ∧ w.frozen? ⟨g, 2, none⟩ = false ∧ w.cell? ⟨g, 3, none⟩ = some f3 ∧ w.frozen? ⟨g, 3, none⟩ = false := by
  obtain ⟨h1, h2, A, c, h3, h4, h5⟩ := h
  exact ⟨(blk_cell h3 1).trans rfl, blk_frozen h3 1, (blk_cell h3 2).trans rfl, blk_frozen h3 2, (blk_cell h3 3).trans rfl, blk_frozen h3 3⟩
theorem St.put2 {w0 w : World} {g : Nat} {r : List Int} {bad : Bool} {f2 f3 : Value} (h : St w0 w g r bad f2 f3) (u : Value) : St w0 (w.setCell ⟨g, 2, none⟩ u) g r bad u f3 := by
  obtain ⟨h1, h2, A, c, h3, h4, h5⟩ := h
  exact ⟨h1, below_set h2 h1, A, c, blk_put (cs := #[.slice A r.length c, .bool bad, f2, f3]) h3 2 _ rfl, h4, h5⟩
theorem St.put3 {w0 w : World} {g : Nat} {r : List Int} {bad : Bool} {f2 f3 : Value} (h : St w0 w g r bad f2 f3) (u : Value) : St w0 (w.setCell ⟨g, 3, none⟩ u) g r bad f2 u := by
  obtain ⟨h1, h2, A, c, h3, h4, h5⟩ := h
  exact ⟨h1, below_set h2 h1, A, c, blk_put (cs := #[.slice A r.length c, .bool bad, f2, f3]) h3 3 _ rfl, h4, h5⟩
theorem St.lt {w0 w : World} {g : Nat} {r : List Int} {bad : Bool} {f2 f3 : Value} (h : St w0 w g r bad f2 f3) : g < w.heap.size := by
  obtain ⟨h1, h2, A, c, h3, h4, h5⟩ := h
  exact blk_lt h3
theorem St.grown {w0 w w1 : World} {g : Nat} {r : List Int} {bad : Bool} {f2 f3 : Value} (h : St w0 w g r bad f2 f3) (hg : w.grownBy w1 f3.ownBlock) (hne : f3.ownBlock ≠ some g) (hB : Below w0.heap.size w0 w1) : St w0 w1 g r bad f2 f3 := by
  obtain ⟨h1, h2, A, c, h3, h4, h5⟩ := h
  exact ⟨h1, hB, A, c, blk_grown h3 hg (fun e => hne e.symm), h4, h5⟩
def numS (r : List Int) (bad : Bool) : Nat × List Int × Bool := match rdNum 5 r with
  | some q => (q.1, q.2, bad)
  | none => (0, r, true)
def takeS (n : Nat) (r : List Int) (bad : Bool) : List Int × List Int × Bool := if n ≤ r.length then (r.take n, r.drop n, bad) else ([], r, true)
theorem or_add (v x k : Nat) (hv : v < 2 ^ k) (hx : x < 128) (hk : k ≤ 28) : Go.bits .or .i64 (v : Int) ((x * 2 ^ k : Nat) : Int) = ((v + x * 2 ^ k : Nat) : Int) := by
  have hp : 2 ^ k ≤ 2 ^ 28 := Nat.pow_le_pow_right (by decide) hk
  have hm : x * 2 ^ k ≤ 127 * 2 ^ 28 := Nat.mul_le_mul (by omega) hp
  have hp' : 2 ^ 28 = 268435456 := by decide
  have h1 : (BitVec.ofInt 64 (v : Int)).toNat = v := by
    rw [BitVec.ofInt_natCast, BitVec.toNat_ofNat]; exact Nat.mod_eq_of_lt (by omega)
  have h2 : (BitVec.ofInt 64 ((x * 2 ^ k : Nat) : Int)).toNat = x * 2 ^ k := by
    rw [BitVec.ofInt_natCast, BitVec.toNat_ofNat]; exact Nat.mod_eq_of_lt (by omega)
  have h3 : v ||| x * 2 ^ k = v + x * 2 ^ k := by
    have := Nat.two_pow_add_eq_or_of_lt hv x
    rw [Nat.or_comm, Nat.mul_comm x, ← this]
    omega
  show IntKind.i64.wrap ((BitVec.ofInt 64 (v : Int) ||| BitVec.ofInt 64 ((x * 2 ^ k : Nat) : Int)).toNat : Int) = _
  rw [BitVec.toNat_or, h1, h2, h3, IntKind.wrap_i64]
  omega
theorem rdNum_cons (k : Nat) (c : Int) (r : List Int) : rdNum (k + 1) (c :: r) = if c < 128 then some (c.toNat, r) else (rdNum k r).map fun q => (c.toNat % 128 + 128 * q.1, q.2) := rfl
theorem rdNum_nil (k : Nat) : rdNum k [] = none := by cases k <;> rfl
theorem getD_get' (l : List Int) (i : Nat) (h : i < l.length) : l.getD i 0 = l[i] := by simp [List.getD, List.getElem?_eq_getElem h]
theorem and127 (x : Int) (h0 : 0 ≤ x) (h1 : x ≤ 255) : Go.bits .and .u8 x 127 = ((x.toNat % 128 : Nat) : Int) := by
  have key : ∀ m : Fin 256, Go.bits .and .u8 ((m.val : Nat) : Int) 127 = ((m.val % 128 : Nat) : Int) := by decide +kernel
  have := key ⟨x.toNat, by omega⟩
  simp only [Int.toNat_of_nonneg h0] at this
  exact this
theorem step_val (v i : Nat) (x : Int) (hv : v < 2 ^ (7 * i)) (hi : i < 5) (h0 : 0 ≤ x) (h1 : x ≤ 255) :
    Go.bits .or .i64 (v : Int) (wrap64 (wrap64 (Go.bits .and .u8 x 127) * 2 ^ (7 * i))) = ((v + x.toNat % 128 * 2 ^ (7 * i) : Nat) : Int) := by
  have hm : x.toNat % 128 < 128 := Nat.mod_lt _ (by decide)
  have hk : 7 * i ≤ 28 := by omega
  rw [and127 x h0 h1]
  generalize x.toNat % 128 = m at hm
  generalize 7 * i = k at hv hk
  have hp : 2 ^ k ≤ 268435456 := Nat.le_trans (Nat.pow_le_pow_right (by decide) hk) (by decide)
  have e1 : wrap64 (m : Int) = (m : Int) := wrap_in (by omega)
  have e2 : (m : Int) * 2 ^ k = ((m * 2 ^ k : Nat) : Int) := by rw [Int.natCast_mul, Int.natCast_pow]; rfl
  have hmul : m * 2 ^ k ≤ 127 * 268435456 := Nat.mul_le_mul (by omega) hp
  rw [e1, e2, wrap_in (by omega)]
  exact or_add v m k hv hm hk
theorem St.cut {w0 w : World} {g : Nat} {A : Option Addr} {c : Nat} {r : List Int} {bad : Bool} {f2 f3 : Value} (hg : w0.heap.size ≤ g) (hB : Below w0.heap.size w0 w) (hk : w.heap[g]? = some (.cells #[.slice A r.length c, .bool bad, f2, f3] 119 (0, 0))) (hC : Kd.C (Kd.int .u8) w0 A r.length r) (hc : r.length ≤ c) (m : Nat) (hm : m ≤ r.length) (A' : Option Addr) (n' c' : Nat) (hA : A' = if c = m then A else A.map (·.add m)) (hn' : n' = r.length - m) (hc' : c' = c - m) :
    St w0 (w.setCell ⟨g, 0, none⟩ (.slice A' n' c')) g (r.drop m) bad f2 f3 := by
  subst hn' hc'
  have hd := Kd.C_drop (c := c) hC hm hc
  have e : (Kd.int .u8 : Kd Int).sz = 1 := rfl
  rw [e, Nat.mul_one, ← hA] at hd
  refine ⟨hg, below_set hB hg, A', c - m, ?_, hd, by rw [List.length_drop]; omega⟩
  refine blk_put (cs := #[.slice A r.length c, .bool bad, f2, f3]) hk 0 _ ?_
  rw [List.length_drop]
  rfl
theorem kept_set (w : World) (g o : Nat) (u : Value) : Kept w (w.setCell ⟨g, o, none⟩ u) (fun k => k = g) := Kept.setCell (S := fun k => k = g) (p := ⟨g, o, none⟩) (Kept.refl w _) (.inl rfl) u
set_option maxRecDepth 100000 in
set_option maxHeartbeats 4000000 in
theorem number_calls (g : Nat) (r : List Int) (bad : Bool) (f2 f3 : Value) (w0 w : World) (hS : St w0 w g r bad f2 f3) (hb : ∀ x ∈ r, 0 ≤ x ∧ x ≤ 255) (hl : r.length ≤ 1048576) :
    Calls Try.prog 143 #[.pointer (some ⟨g, 0, none⟩)] w fun e w' => e = .returned (.int .i64 ((numS r bad).1 : Int)) ∧ St w0 w' g (numS r bad).2.1 (numS r bad).2.2 f2 f3 ∧ Kept w w' (fun k => k = g) := by
  obtain ⟨hg0, hB, A, c, hb0, hC, hc⟩ := hS
  have HB := Aside0.mk hB
  have HK := Aside0.mk hb0
  have HC := Aside0.mk hC
  have HY := Aside0.mk hb
  have h0 : w.cell? ⟨g, 0, none⟩ = some (.slice A r.length c) := (blk_cell hb0 0).trans rfl
  have f0 := blk_frozen hb0 0
  have h1 : w.cell? ⟨g, 1, none⟩ = some (.bool bad) := (blk_cell hb0 1).trans rfl
  have f1 := blk_frozen hb0 1
  clear hB hb0 hC hb
  go_enter Try.func143, Try.ntmps143
  go_wp2
  go_loopg [3, 11] 5 (fun gg s3 s11 wr => ∃ i v : Nat, i ≤ 5 ∧ i ≤ r.length ∧ 5 - i ≤ gg ∧ s3 = .int .i64 (v : Int) ∧ s11 = .int .i64 (i : Int) ∧ v < 2 ^ (7 * i) ∧ Aside0 (rdNum 5 r = (rdNum (5 - i) (r.drop i)).map fun q => (v + 2 ^ (7 * i) * q.1, q.2)) ∧ wr = w)
  case atStart => exact ⟨0, 0, by omega, by omega, by omega, rfl, rfl, by decide, ⟨by cases h : rdNum 5 r <;> simp [h]⟩, rfl⟩
  case round =>
    obtain ⟨i, v, hi5, hi, hg, rfl, rfl, hv, HR, rfl⟩ := hrel
    by_cases hlt : i < r.length
    · have hltz : (i : Int) < (r.length : Int) := by omega
      obtain ⟨ad, hA, _⟩ := HC.out.2.2 (by omega)
      subst hA
      have hcell : wr.cell? (ad.add i) = some (.int .u8 (r.getD i 0)) := pw_cell_below HB.out (cellB HC.out i hlt)
      obtain ⟨c0, c1⟩ := HY.out (r.getD i 0) (by rw [getD_get' r i hlt]; exact List.getElem_mem hlt)
      have HD := Aside0.mk (getD_drop r i hlt)
      generalize r.getD i 0 = x at hcell c0 c1 HD
      by_cases h5 : i = 5
      · subst h5
        have HN := Aside0.mk (show numS r bad = (0, r, true) from by
          unfold numS
          rw [HR.out]
          rfl)
        have hcell5 : wr.cell? ⟨ad.block, ad.off + 5, none⟩ = some (.int .u8 x) := hcell
        have hlt5 : (5 : Int) < (r.length : Int) := by omega
        go_wp2
        go_ret
        rw [HN.out]
        exact ⟨rfl, ⟨hg0, below_set HB.out hg0, some ad, c, blk_put (cs := #[.slice (some ad) r.length c, .bool bad, f2, f3]) HK.out 1 _ rfl, HC.out, hc⟩, kept_set _ _ _ _⟩
      · have h5z : ¬ (i : Int) = 5 := by omega
        have e5 : 5 - i = (4 - i) + 1 := by omega
        have HV := Aside0.mk (step_val v i x hv (by omega) c0 c1)
        by_cases h128 : x < 128
        · have HN := Aside0.mk (show numS r bad = (v + x.toNat % 128 * 2 ^ (7 * i), r.drop (i + 1), bad) from by
            have hr := HR.out
            rw [e5, HD.out, rdNum_cons, if_pos h128, Option.map_some] at hr
            unfold numS
            rw [hr]
            have : x.toNat % 128 = x.toNat := Nat.mod_eq_of_lt (by omega)
            simp only [this, Nat.mul_comm])
          have HS := Aside0.mk (St.cut hg0 HB.out HK.out HC.out hc (i + 1) (by omega))
          by_cases hcm : c = i + 1
          · subst hcm
            go_wp2
            go_ret
            rw [HN.out]
            exact ⟨congrArg (fun z => Ending.returned (.int .i64 z)) HV.out, HS.out _ 0 0 (by simp) (by omega) (Nat.sub_self _).symm, kept_set _ _ _ _⟩
          · go_wp2
            go_ret
            rw [HN.out]
            exact ⟨congrArg (fun z => Ending.returned (.int .i64 z)) HV.out, HS.out _ _ _ (if_neg hcm).symm rfl rfl, kept_set _ _ _ _⟩
        · have hr := HR.out
          rw [e5, HD.out, rdNum_cons, if_neg h128, Option.map_map] at hr
          have HR2 := Aside0.mk hr
          clear hr
          have hp : 2 ^ (7 * (i + 1)) = 2 ^ (7 * i) * 128 := by rw [show 7 * (i + 1) = 7 * i + 7 by omega, Nat.pow_add]
          have HP := Aside0.mk hp
          clear hp
          go_wp2
          go_roundg (5 - (i + 1))
          case measure => omega
          case rel =>
            refine ⟨i + 1, v + x.toNat % 128 * 2 ^ (7 * i), by omega, by omega, by omega, ?_, by go_num, ?_, ⟨?_⟩, rfl⟩
            · rw [HV.out]
            · rw [HP.out]
              have : x.toNat % 128 * 2 ^ (7 * i) ≤ 127 * 2 ^ (7 * i) := Nat.mul_le_mul_right _ (by omega)
              omega
            · rw [HR2.out, show 5 - (i + 1) = 4 - i by omega, HP.out]
              refine congrArg (fun f => Option.map f _) (funext fun q => ?_)
              simp only [Function.comp]
              rw [Nat.mul_add, ← Nat.mul_assoc, Nat.mul_comm (x.toNat % 128), Nat.add_assoc]
    · have hltz : ¬ (i : Int) < (r.length : Int) := by omega
      have HN := Aside0.mk (show numS r bad = (0, r, true) from by
        have hr := HR.out
        rw [List.drop_of_length_le (by omega), rdNum_nil] at hr
        unfold numS
        rw [hr]
        rfl)
      go_wp2
      go_ret
      rw [HN.out]
      exact ⟨rfl, ⟨hg0, below_set HB.out hg0, A, c, blk_put (cs := #[.slice A r.length c, .bool bad, f2, f3]) HK.out 1 _ rfl, HC.out, hc⟩, kept_set _ _ _ _⟩
set_option maxRecDepth 100000 in
set_option maxHeartbeats 4000000 in
theorem take_calls (g n : Nat) (r : List Int) (bad : Bool) (f2 f3 : Value) (w0 w : World) (hS : St w0 w g r bad f2 f3) (hl : r.length ≤ 1048576) :
    Calls Try.prog 142 #[.pointer (some ⟨g, 0, none⟩), .int .i64 (n : Int)] w fun e w' => (∃ v, e = .returned v ∧ HelpB.tB.K w0 (takeS n r bad).1 v) ∧ St w0 w' g (takeS n r bad).2.1 (takeS n r bad).2.2 f2 f3 ∧ Kept w w' (fun k => k = g) := by
  obtain ⟨hg0, hB, A, c, hb0, hC, hc⟩ := hS
  have HB := Aside0.mk hB
  have HK := Aside0.mk hb0
  have HC := Aside0.mk hC
  have h0 : w.cell? ⟨g, 0, none⟩ = some (.slice A r.length c) := (blk_cell hb0 0).trans rfl
  have f0 := blk_frozen hb0 0
  have h1 : w.cell? ⟨g, 1, none⟩ = some (.bool bad) := (blk_cell hb0 1).trans rfl
  have f1 := blk_frozen hb0 1
  clear hB hb0 hC
  by_cases hn : n ≤ r.length
  · have hz : ¬ ((n : Int) > (r.length : Int)) := by omega
    have HN := Aside0.mk (show takeS n r bad = (r.take n, r.drop n, bad) from if_pos hn)
    have HS := Aside0.mk (St.cut hg0 HB.out HK.out HC.out hc n hn)
    have HT := Aside0.mk (show HelpB.tB.K w0 (r.take n) (.slice A n c) from ⟨A, c, by rw [List.length_take, Nat.min_eq_left hn], by rw [List.length_take]; omega, by have := Kd.C_take HC.out hn; exact this⟩)
    by_cases hcm : c = n
    · subst hcm
      go_enter Try.func142, Try.ntmps142
      go_wp2
      go_ret
      rw [HN.out]
      exact ⟨⟨_, rfl, HT.out⟩, HS.out _ 0 0 (by simp) (by omega) (Nat.sub_self _).symm, kept_set _ _ _ _⟩
    · go_enter Try.func142, Try.ntmps142
      go_wp2
      go_ret
      rw [HN.out]
      exact ⟨⟨_, rfl, HT.out⟩, HS.out _ _ _ (if_neg hcm).symm rfl rfl, kept_set _ _ _ _⟩
  · have hz : (n : Int) > (r.length : Int) := by omega
    have HN := Aside0.mk (show takeS n r bad = ([], r, true) from if_neg hn)
    go_enter Try.func142, Try.ntmps142
    go_wp2
    go_ret
    rw [HN.out]
    exact ⟨⟨_, rfl, none, 0, rfl, Nat.le_refl _, Kd.C_nil _ _⟩, ⟨hg0, below_set HB.out hg0, A, c, blk_put (cs := #[.slice A r.length c, .bool bad, f2, f3]) HK.out 1 _ rfl, HC.out, hc⟩, kept_set _ _ _ _⟩
end Go.Proofs.Ytmgmdnmfalepkaa.DecA

namespace Go.Proofs.Ytmgmdnmfalepkaa.EncA
open Go.RowKit Go.Proofs.YtmgmdnmfalepkaaW.PrintWords Go.Proofs.YtmgmdnmfalepkaaW.PrintMore Go.Proofs.Ytmgmdnmfalepkaa.Kit Go.Proofs.Ytmgmdnmfalepkaa.PKit Go.Proofs.Ytmgmdnmfalepkaa.Ty Go.Proofs.Ytmgmdnmfalepkaa.PEnc Go.Proofs.Ytmgmdnmfalepkaa.Build
set_option linter.unusedVariables false
def Enc (w0 w : World) (ge : Nat) (No : Nat → Prop) (o : List Int) : Prop :=
  w0.heap.size ≤ ge ∧ Below w0.heap.size w0 w ∧ ∃ A c, w.heap[ge]? = some (.cells #[.slice A o.length c] 154 (0, 0)) ∧ Kd.R (Kd.int .u8) 5 w w0.heap.size (fun k => k ≠ ge ∧ ¬ No k) (.slice A o.length c) o
theorem or128 (n : Nat) : Go.bits .or .u8 ((n : Int) % 256) 128 = ((n % 128 + 128 : Nat) : Int) := by
  have key : ∀ m : Fin 256, Go.bits .or .u8 ((m.val : Nat) : Int) 128 = ((m.val % 128 + 128 : Nat) : Int) := by decide +kernel
  have := key ⟨n % 256, Nat.mod_lt _ (by decide)⟩
  have e : ((n % 256 : Nat) : Int) = (n : Int) % 256 := by omega
  simp only [e] at this
  rw [this]
  have : n % 256 % 128 = n % 128 := by omega
  rw [this]
theorem getD_get' (l : List Int) (i : Nat) (h : i < l.length) : l.getD i 0 = l[i] := by simp [List.getD, List.getElem?_eq_getElem h]
def nums (ns : List Nat) : List Int := ns.flatMap varint
theorem nums_take (ns : List Nat) (i : Nat) (h : i < ns.length) : nums (ns.take (i + 1)) = nums (ns.take i) ++ varint (ns.getD i 0) := by
  unfold nums
  rw [List.take_succ_eq_append_getElem h, List.flatMap_append]
  congr 1
  simp [List.getD, List.getElem?_eq_getElem h]
theorem nums_len (ns : List Nat) (hn : ∀ n ∈ ns, n < 4611686018427387904) : (nums ns).length ≤ 9 * ns.length := by
  induction ns with
  | nil => simp [nums]
  | cons n r ih =>
    have h1 := varint_len10 (hn n (by simp))
    have h2 := ih (fun m hm => hn m (List.mem_cons_of_mem _ hm))
    have e : nums (n :: r) = varint n ++ nums r := rfl
    rw [e, List.length_append, List.length_cons]
    omega
set_option maxRecDepth 100000 in
set_option maxHeartbeats 4000000 in
theorem numbers_calls (ge gL : Nat) (o : List Int) (ns : List Nat) (w0 w : World) (hE : Enc w0 w ge (fun k => k = gL) o) (hL : w.heap[gL]? = some (.cells (ns.map fun (n : Nat) => Value.int .i64 (n : Int)).toArray 3 (0, 0))) (hge : ge ≠ gL)
    (hn : ∀ n ∈ ns, n < 4611686018427387904) (hl : ns.length ≤ 1000) (ho : o.length ≤ 1099511627776) :
    Calls Try.prog 144 #[.pointer (some ⟨ge, 0, none⟩), .slice (some ⟨gL, 0, none⟩) ns.length ns.length] w fun e w' => e = .returned (.tuple #[]) ∧ Enc w0 w' ge (fun k => k = gL) (o ++ nums ns) := by
  have HE := Aside0.mk hE
  have HL := Aside0.mk hL
  have HN := Aside0.mk hn
  clear hE hL hn
  go_enter Try.func144, Try.ntmps144
  go_wp2
  go_loopg [8] ns.length (fun gg s8 wr => ∃ i : Nat, i ≤ ns.length ∧ ns.length - i ≤ gg ∧ s8 = .int .i64 i ∧ Aside0 (Enc w0 wr ge (fun k => k = gL) (o ++ nums (ns.take i))) ∧ Aside0 (wr.heap[gL]? = some (.cells (ns.map fun (n : Nat) => Value.int .i64 (n : Int)).toArray 3 (0, 0))))
  case atStart => exact ⟨0, by omega, by omega, rfl, ⟨by simpa [nums] using HE.out⟩, HL⟩
  case round =>
    obtain ⟨i, hi, hg, rfl, HE1, HL1⟩ := hrel
    by_cases hlt : i < ns.length
    · have hltz : (i : Int) < (ns.length : Int) := by omega
      have hcell : wr.cell? ⟨gL, i, none⟩ = some (.int .i64 ((ns.getD i 0 : Nat) : Int)) := (blk_cell HL1.out i).trans (by simp [List.getD, List.getElem?_eq_getElem hlt])
      have hnb := HN.out (ns.getD i 0) (by simp [List.getD, List.getElem?_eq_getElem hlt])
      have HT := Aside0.mk (nums_take ns i hlt)
      have HNL := Aside0.mk (nums_len (ns.take i) (fun n hn => HN.out n (List.mem_of_mem_take hn)))
      have HVL := Aside0.mk (varint_len10 hnb)
      generalize hx : ns.getD i 0 = n at hcell hnb HT HVL
      clear hx
      rename World => wo
      go_wp2
      go_loopg [5] n (fun gg s5 wr => ∃ (m : Nat) (p : List Int), m ≤ gg ∧ m ≤ n ∧ s5 = .int .i64 m ∧ Aside0 (p ++ varint m = o ++ nums (ns.take i) ++ varint n) ∧ Aside0 (Enc w0 wr ge (fun k => k = gL) p) ∧ Aside0 (wr.heap[gL]? = some (.cells (ns.map fun (n : Nat) => Value.int .i64 (n : Int)).toArray 3 (0, 0))))
      case atStart => exact ⟨n, o ++ nums (ns.take i), Nat.le_refl _, Nat.le_refl _, rfl, ⟨rfl⟩, HE1, HL1⟩
      case round =>
        rename World => wi
        obtain ⟨m, p, hm, hmn, rfl, HP, HE2, HL2⟩ := hrel
        have hpl : p.length ≤ 1099511700000 := by
          have h1 := congrArg List.length HP.out
          have h2 := HNL.out
          have h3 := HVL.out
          simp only [List.length_append] at h1
          rw [List.length_take] at h2
          omega
        obtain ⟨hge0, hB, Ao, co, hb, hR⟩ := HE2.out
        have HB0 := Aside0.mk hB
        have HBK := Aside0.mk hb
        have HR := Aside0.mk hR
        have HFR := Aside0.mk (show ∀ k, wi.heap.size ≤ k → k ≠ ge ∧ ¬ k = gL from fun k hk => ⟨fun e => by have := blk_lt HBK.out; omega, fun e => by have := blk_lt HL2.out; omega⟩)
        have hcg : wi.cell? ⟨ge, 0, none⟩ = some (.slice Ao p.length co) := (blk_cell hb 0).trans rfl
        have hfg := blk_frozen hb 0
        clear hB hb hR
        by_cases h128 : 128 ≤ m
        · have hz : (128 : Int) ≤ (m : Int) := by omega
          go_wp2_with (first | (at_builtin; refine Kd.R_append (Kd.int .u8) (w0 := w0) w0.heap.size rfl (.tmp 18) (.tmp 22) 33 5 (.int .u8 0) 1 rfl Try.underlying33 infoB rfl (by decide) (by decide) (.slice Ao p.length co) p _ [.int .u8 _] (fun k => k ≠ ge ∧ ¬ k = gL) (fun _ => False) rfl rfl rfl (fun _ h => h.elim) HFR.out HR.out HB0.out HB0.out.size (by omega) ?_; rintro v1 w1 hR1 hB1 hg1 hat1; obtain ⟨A1, c1, rfl⟩ := Kd.R_slice hR1; have hb1 := blk_grown HBK.out hg1 (fun e => (HR.out.1 ge e.symm).1 rfl); have hL1 := blk_grown HL2.out hg1 (fun e => (HR.out.1 gL e.symm).2 rfl); have hcg1 : w1.cell? ⟨ge, 0, none⟩ = some (.slice Ao p.length co) := (blk_cell hb1 0).trans rfl; have hfg1 := blk_frozen hb1 0))
          rw [or128 m] at hR1
          go_roundg (m / 128)
          case measure => omega
          case rel =>
            refine ⟨m / 128, p ++ [((m % 128 + 128 : Nat) : Int)], Nat.le_refl _, by omega, ?_, ⟨?_⟩, ⟨hge0, below_set hB1 hge0, A1, c1, ?_, Kd.R_far hR1 (fun k hk => hk.1) _⟩, ⟨blk_far hL1 (fun e => hge e.symm) _⟩⟩
            · show Value.int .i64 ((m : Int) / 128) = _
              first | rfl | (congr 1; omega)
            · rw [← HP.out, varint_ge (n := m) (by omega), List.append_assoc]
              rfl
            · refine blk_put (cs := #[.slice Ao p.length co]) hb1 0 _ ?_
              simp only [List.length_append, List.length_singleton]
              rfl
        · have hz : ¬ (128 : Int) ≤ (m : Int) := by omega
          go_wp2_with (first | (at_builtin; refine Kd.R_append (Kd.int .u8) (w0 := w0) w0.heap.size rfl (.tmp 32) (.tmp 35) 33 5 (.int .u8 0) 1 rfl Try.underlying33 infoB rfl (by decide) (by decide) (.slice Ao p.length co) p _ [.int .u8 _] (fun k => k ≠ ge ∧ ¬ k = gL) (fun _ => False) rfl rfl rfl (fun _ h => h.elim) HFR.out HR.out HB0.out HB0.out.size (by omega) ?_; rintro v1 w1 hR1 hB1 hg1 hat1; obtain ⟨A1, c1, rfl⟩ := Kd.R_slice hR1; have hb1 := blk_grown HBK.out hg1 (fun e => (HR.out.1 ge e.symm).1 rfl); have hL1 := blk_grown HL2.out hg1 (fun e => (HR.out.1 gL e.symm).2 rfl); have hcg1 : w1.cell? ⟨ge, 0, none⟩ = some (.slice Ao p.length co) := (blk_cell hb1 0).trans rfl; have hfg1 := blk_frozen hb1 0))
          go_roundg (ns.length - (i + 1))
          case measure => omega
          case rel =>
            have hpn : o ++ nums (ns.take (i + 1)) = p ++ [(m : Int)] := by rw [HT.out, ← List.append_assoc, ← HP.out, varint_lt (by omega)]
            refine ⟨i + 1, by omega, by omega, by go_num, ⟨?_⟩, ⟨blk_far hL1 (fun e => hge e.symm) _⟩⟩
            rw [hpn]
            refine ⟨hge0, below_set hB1 hge0, A1, c1, ?_, Kd.R_far hR1 (fun k hk => hk.1) _⟩
            refine blk_put (cs := #[.slice Ao p.length co]) hb1 0 _ ?_
            simp only [List.length_append, List.length_singleton]
            rfl
    · have hltz : ¬ (i : Int) < (ns.length : Int) := by omega
      obtain rfl : i = ns.length := by omega
      go_wp2
      go_end0
      have h1 := HE1.out
      rw [List.take_length] at h1
      exact ⟨rfl, h1⟩
theorem Enc.mono {w0 w : World} {ge : Nat} {No No' : Nat → Prop} {o : List Int} (h : Enc w0 w ge No o) (hn : ∀ k, No' k → No k) : Enc w0 w ge No' o := by
  obtain ⟨h1, h2, A, c, h3, h4⟩ := h
  exact ⟨h1, h2, A, c, h3, Kd.R_mono h4 (fun k hk => ⟨hk.1, fun h => hk.2 (hn k h)⟩)⟩
theorem Enc.list {w0 w : World} {ge : Nat} {o : List Int} (h : Enc w0 w ge (fun _ => False) o) (x : Obj) : Enc w0 (w.alloc x) ge (fun k => k = w.heap.size) o ∧ ge ≠ w.heap.size := by
  obtain ⟨h1, h2, A, c, h3, h4⟩ := h
  refine ⟨⟨h1, below_alloc h2 _, A, c, blk_alloc h3 _, Kd.R_alloc (Kd.R_mono (Kd.R_bound h4) (fun k hk => ⟨hk.1.1, fun e => by have := hk.2.2.1; omega⟩)) _⟩, fun e => by have := blk_lt h3; omega⟩
set_option maxRecDepth 100000 in
set_option maxHeartbeats 4000000 in
theorem bytes_calls (ge : Nat) (o : List Int) (A : Option Addr) (c : Nat) (l : List Int) (w0 w : World) (hE : Enc w0 w ge (fun _ => False) o) (hr : Kd.C (Kd.int .u8) w0 A l.length l) (hl : l.length ≤ 1048576) (ho : o.length ≤ 1099511627776) :
    Calls Try.prog 145 #[.pointer (some ⟨ge, 0, none⟩), .slice A l.length c] w fun e w' => e = .returned (.tuple #[]) ∧ Enc w0 w' ge (fun _ => False) (o ++ (varint l.length ++ l)) := by
  have HR0 := Aside0.mk hr
  obtain ⟨hE1, hne⟩ := hE.list (.cells #[.int .i64 (l.length : Int)] 3)
  have hnum := numbers_calls ge w.heap.size o [l.length] w0 _ hE1 ((heap_alloc_new w _).trans rfl) hne (by simp; omega) (by simp) ho
  have e1 : nums [l.length] = varint l.length := by simp [nums]
  rw [e1] at hnum
  clear hr hE hE1 hne e1
  go_enter Try.func145, Try.ntmps145
  go_wp2_with fail
  go_at_call 144
  refine hnum.mono ?_
  rintro e w1 ⟨rfl, hE2⟩
  obtain ⟨hge0, hB, Ao, co, hb, hR⟩ := hE2
  have hvl := varint_len10 (n := l.length) (by omega)
  generalize hp : o ++ varint l.length = p at hb hR
  have HP := Aside0.mk hp
  have hpl : p.length ≤ 1099511627800 := by rw [← hp, List.length_append]; omega
  clear hp
  have HB0 := Aside0.mk hB
  have HBK := Aside0.mk hb
  have HR := Aside0.mk hR
  have HFR := Aside0.mk (show ∀ k, w1.heap.size ≤ k → k ≠ ge ∧ ¬ False from fun k hk => ⟨fun e => by have := blk_lt HBK.out; omega, id⟩)
  have HRF := Aside0.mk (Kd.R_mono hR (ok' := fun k => k ≠ ge ∧ ¬ False) (fun k hk => ⟨hk.1, id⟩))
  have hcg : w1.cell? ⟨ge, 0, none⟩ = some (.slice Ao p.length co) := (blk_cell hb 0).trans rfl
  have hfg := blk_frozen hb 0
  clear hB hb hR
  go_wp2_with (at_builtin; refine Kd.R_append_rows (Kd.int .u8) (Rr := (Kd.int .u8).K w1) (w0 := w0) w0.heap.size rfl (.tmp 13) (.tmp 14) 33 5 (.int .u8 0) 1 rfl Try.underlying33 infoB rfl (by decide) (by decide) (.slice Ao p.length co) p l A l.length c (fun k => k ≠ ge ∧ ¬ False) (fun _ => False) rfl rfl HRF.out (Kd.C_below HR0.out HB0.out) (fun x cs h => h) (fun _ h => h.elim) HFR.out HB0.out HB0.out.size (by omega) ?_; rintro v1 w2 hR1 hB1 hg1 hat1; obtain ⟨A1, c1, rfl⟩ := Kd.R_slice hR1; have hb1 := blk_grown HBK.out hg1 (fun e => (HR.out.1 ge e.symm).1 rfl); have hcg1 : w2.cell? ⟨ge, 0, none⟩ = some (.slice Ao p.length co) := (blk_cell hb1 0).trans rfl; have hfg1 := blk_frozen hb1 0)
  go_end0
  refine ⟨rfl, ?_⟩
  rw [← List.append_assoc, HP.out]
  exact ⟨hge0, below_set hB1 hge0, A1, c1, blk_put (cs := #[.slice Ao p.length co]) hb1 0 _ (by rw [List.length_append]; rfl), Kd.R_far hR1 (fun k hk => hk.1) _⟩
theorem xor_u32 (a b : Nat) (ha : a < 4294967296) (hb : b < 4294967296) : Go.bits .xor .u32 (a : Int) (b : Int) = ((a ^^^ b : Nat) : Int) := by
  have hx : a ^^^ b < 2 ^ 32 := Nat.xor_lt_two_pow (by omega) (by omega)
  have h1 : (BitVec.ofInt 32 (a : Int)).toNat = a := by
    rw [BitVec.ofInt_natCast, BitVec.toNat_ofNat]; exact Nat.mod_eq_of_lt (by omega)
  have h2 : (BitVec.ofInt 32 (b : Int)).toNat = b := by
    rw [BitVec.ofInt_natCast, BitVec.toNat_ofNat]; exact Nat.mod_eq_of_lt (by omega)
  have hw : ∀ n : Int, IntKind.u32.wrap n = n % 4294967296 := fun n => by simp [IntKind.wrap, IntKind.bits, IntKind.signed]
  show IntKind.u32.wrap ((BitVec.ofInt 32 (a : Int) ^^^ BitVec.ofInt 32 (b : Int)).toNat : Int) = _
  rw [BitVec.toNat_xor, h1, h2, hw]
  omega
set_option maxRecDepth 100000 in
set_option maxHeartbeats 4000000 in
theorem sum_calls (A : Option Addr) (c : Nat) (l : List Int) (w : World) (hr : Kd.C (Kd.int .u8) w A l.length l) (hb : ∀ x ∈ l, 0 ≤ x ∧ x ≤ 255) (hl : l.length ≤ 1099511627776) :
    Calls Try.prog 146 #[.slice A l.length c] w fun e w' => e = .returned (.int .u32 (sum l : Int)) ∧ w' = w := by
  have HR := Aside0.mk hr
  have HB := Aside0.mk hb
  clear hr hb
  go_enter Try.func146, Try.ntmps146
  go_wp2
  go_loopg [3, 8] l.length (fun gg s3 s8 wr => ∃ i : Nat, i ≤ l.length ∧ l.length - i ≤ gg ∧ s3 = .int .u32 (sum (l.take i) : Int) ∧ s8 = .int .i64 i ∧ w = wr)
  case atStart => exact ⟨0, by omega, by omega, rfl, rfl, rfl⟩
  case round =>
    obtain ⟨i, hi, hg, rfl, rfl, hw_⟩ := hrel
    subst hw_
    by_cases hlt : i < l.length
    · have hltz : (i : Int) < (l.length : Int) := by omega
      obtain ⟨ad, hA, _⟩ := HR.out.2.2 (by omega)
      subst hA
      have hcell := cellB HR.out i hlt
      have ht : l.take (i + 1) = l.take i ++ [l.getD i 0] := by
        rw [List.take_succ_eq_append_getElem hlt, getD_get' l i hlt]
      obtain ⟨c0, c1⟩ := HB.out (l.getD i 0) (by rw [getD_get' l i hlt]; exact List.getElem_mem hlt)
      have hs := sum_lt (l.take i)
      have hstep : sum (l.take (i + 1)) = mix (sum (l.take i)) (l.getD i 0) := by rw [ht, sum_snoc]
      have HS := Aside0.mk hstep
      clear hstep ht
      generalize hh : sum (l.take i) = h at hs HS
      generalize hx : l.getD i 0 = x at hcell c0 c1 HS
      clear hh hx
      go_wp2
      go_roundg (l.length - (i + 1))
      case measure => omega
      case rel =>
        refine ⟨i + 1, by omega, by omega, ?_, by go_num, rfl⟩
        have e1 : Go.bits .xor .u32 (h : Int) x = ((h ^^^ x.toNat : Nat) : Int) := by
          have := xor_u32 h x.toNat hs (by omega)
          rwa [Int.toNat_of_nonneg c0] at this
        show Value.int .u32 (Go.bits .xor .u32 (h : Int) x * 16777619 % 4294967296) = _
        rw [HS.out, e1]
        unfold mix
        first | rfl | (congr 1; done) | (congr 1; omega)
    · have hltz : ¬ (i : Int) < (l.length : Int) := by omega
      obtain rfl : i = l.length := by omega
      go_wp2
      go_ret
      exact ⟨by first | rfl | simp, rfl⟩
end Go.Proofs.Ytmgmdnmfalepkaa.EncA

namespace Go.Proofs.Ytmgmdnmfalepkaa.DecB
open Go.RowKit Go.Proofs.YtmgmdnmfalepkaaW.PrintWords Go.Proofs.YtmgmdnmfalepkaaW.PrintMore Go.Proofs.Ytmgmdnmfalepkaa.Kit Go.Proofs.Ytmgmdnmfalepkaa.PKit Go.Proofs.Ytmgmdnmfalepkaa.Ty Go.Proofs.Ytmgmdnmfalepkaa.PDec Go.Proofs.Ytmgmdnmfalepkaa.Build Go.Proofs.Ytmgmdnmfalepkaa.HelpBB Go.Proofs.Ytmgmdnmfalepkaa.DecA
set_option linter.unusedVariables false
abbrev Ls (w0 w : World) (v : Value) (ls : List (List Int)) : Prop := OwnRow (kB.K w0) 33 1 w w0.heap.size v ls
theorem Ls.kept {w0 w W : World} {v : Value} {ls : List (List Int)} {g : Nat} (h : Ls w0 w v ls) (hk : Kept w W (fun k => k = g)) (hne : v.ownBlock ≠ some g) : Ls w0 W v ls := by
  obtain ⟨inner, ho, hr⟩ := h
  refine ⟨inner, own_move ho (fun k hk' => hk.2 k ?_ (fun e => hne (by rw [hk', e]))), hr⟩
  obtain ⟨cells, hc⟩ := own_typed ho k hk'
  exact blk_lt hc
def Rel (n : Nat) (b0 : List Int) (j : Nat) (acc : List (List Int)) (r : List Int) (bad : Bool) : Prop :=
  (bad = false → rdLines 5 n b0 = (rdLines 5 (n - j) r).map fun p => (acc ++ p.1, p.2)) ∧ (bad = true → rdLines 5 n b0 = none)
def lineS (r : List Int) (bad : Bool) : List Int × List Int × Bool := takeS (numS r bad).1 (numS r bad).2.1 (numS r bad).2.2
theorem Rel.step {n : Nat} {b0 : List Int} {j : Nat} {acc : List (List Int)} {r : List Int} {bad : Bool} (h : Rel n b0 j acc r bad) (hj : j < n) : Rel n b0 (j + 1) (acc ++ [(lineS r bad).1]) (lineS r bad).2.1 (lineS r bad).2.2 := by
  obtain ⟨h1, h2⟩ := h
  cases bad with
  | true =>
    have hn : (numS r true).2.2 = true := by
      unfold numS
      cases rdNum 5 r <;> rfl
    have ht : (lineS r true).2.2 = true := by
      unfold lineS takeS
      rw [hn]
      split <;> rfl
    rw [ht]
    exact ⟨fun e => Bool.noConfusion e, fun _ => h2 rfl⟩
  | false =>
    have h1 := h1 rfl
    have e1 : n - j = (n - (j + 1)) + 1 := by omega
    rw [e1] at h1
    have e2 : rdLines 5 (n - (j + 1) + 1) r = (rdLine 5 r).bind fun q => (rdLines 5 (n - (j + 1)) q.2).map fun p => (q.1 :: p.1, p.2) := rfl
    rw [e2] at h1
    unfold rdLine at h1
    unfold lineS numS
    cases hq : rdNum 5 r with
    | none =>
      rw [hq] at h1
      have ht : takeS 0 r true = ([], r, true) := by unfold takeS; rw [if_pos (Nat.zero_le _)]; simp
      simp only [ht]
      exact ⟨fun e => Bool.noConfusion e, fun _ => h1⟩
    | some q =>
      obtain ⟨m, t⟩ := q
      rw [hq] at h1
      simp only
      by_cases hm : m ≤ t.length
      · have ht : takeS m t false = (t.take m, t.drop m, false) := if_pos hm
        rw [ht]
        refine ⟨fun _ => ?_, fun e => Bool.noConfusion e⟩
        rw [h1, Option.bind_some]
        simp only
        rw [if_pos hm, Option.bind_some, Option.map_map]
        refine congrArg (fun f => Option.map f _) (funext fun q => ?_)
        simp
      · have ht : takeS m t false = ([], t, true) := if_neg hm
        rw [ht]
        refine ⟨fun e => Bool.noConfusion e, fun _ => ?_⟩
        rw [h1, Option.bind_some]
        simp only
        rw [if_neg hm]
        rfl
theorem numS_sub (r : List Int) (bad : Bool) (hb : ∀ x ∈ r, 0 ≤ x ∧ x ≤ 255) : (∃ m, (numS r bad).2.1 = r.drop m) ∧ (numS r bad).1 < 34359738368 := by
  unfold numS
  cases hq : rdNum 5 r with
  | none => exact ⟨⟨0, rfl⟩, by show (0 : Nat) < 34359738368; omega⟩
  | some q =>
    obtain ⟨v, t⟩ := q
    obtain ⟨e1, m, _, _, _, e2⟩ := rdNum_some 5 r v t hb hq
    exact ⟨⟨m, e2⟩, Nat.lt_of_lt_of_le e1 (by decide)⟩
theorem takeS_sub (n : Nat) (r : List Int) (bad : Bool) : ∃ m, (takeS n r bad).2.1 = r.drop m := by
  unfold takeS
  split
  · exact ⟨n, rfl⟩
  · exact ⟨0, rfl⟩
def End (b r : List Int) : Prop := (∀ x ∈ r, 0 ≤ x ∧ x ≤ 255) ∧ r.length ≤ b.length
theorem End.drop {b r r' : List Int} (h : End b r) (hm : ∃ m, r' = r.drop m) : End b r' := by
  obtain ⟨m, rfl⟩ := hm
  exact ⟨bytes_drop h.1 m, by have := h.2; rw [List.length_drop]; omega⟩
theorem two_row (W : World) (g : Nat) (x1 x2 : Int) (h : W.heap[g]? = some (.cells #[.int .u8 x1, .int .u8 x2] 5 (0, 0))) : Kd.C (Kd.int .u8) W (some ⟨g, 0, none⟩) 2 [x1, x2] := by
  obtain ⟨A, c, e, _, hC⟩ := Kd.R_reads (Kd.R_of_own (xs := [x1, x2]) (h1 := fun _ => rfl) (enc := Value.int .u8) (ok := fun _ => True) (base := 0) (w := W) (e := 5) (v := .slice (some ⟨g, 0, none⟩) 2 2) ⟨rfl, .inr ⟨g, 2, _, rfl, Nat.zero_le _, h, by simp, by simp [maxLen], rfl, rfl⟩⟩ (fun _ _ => trivial))
  obtain rfl : some ⟨g, 0, none⟩ = A := by injection e
  exact hC
theorem head_bad (r : List Int) (h : (numS (numS r false).2.1 (numS r false).2.2).2.2 = true) : rdHead 5 r = none := by
  unfold rdHead
  unfold numS at h
  cases hq : rdNum 5 r with
  | none => rfl
  | some q =>
    rw [hq] at h
    rw [Option.bind_some]
    simp only at h ⊢
    cases hp : rdNum 5 q.2 with
    | none => rfl
    | some p => rw [hp] at h; cases h
theorem head_ok (r : List Int) (h : (numS (numS r false).2.1 (numS r false).2.2).2.2 = false) : rdHead 5 r = if (numS (numS r false).2.1 (numS r false).2.2).1 ≤ 1000 then (rdLines 5 (numS (numS r false).2.1 (numS r false).2.2).1 (numS (numS r false).2.1 (numS r false).2.2).2.1).map fun l => (((numS r false).1 : Int), l.1) else none := by
  unfold rdHead
  unfold numS at h ⊢
  cases hq : rdNum 5 r with
  | none =>
    rw [hq] at h
    simp only at h
    cases hp : rdNum 5 r with
    | none => rw [hp] at h; cases h
    | some p => rw [hq] at hp; cases hp
  | some q =>
    rw [hq] at h
    rw [Option.bind_some]
    simp only at h ⊢
    cases hp : rdNum 5 q.2 with
    | none => rw [hp] at h; cases h
    | some p => rfl
def Found (w0 w' : World) (g : Nat) (b : List Int) (e : Ending) : Prop := match implP b with
  | none => e = .returned (.bool false)
  | some q => e = .returned (.bool true) ∧ ∃ r f3, St w0 w' g r false (.int .i64 q.1) f3 ∧ HelpBB.tBB.K w' q.2 f3
set_option maxRecDepth 100000 in
set_option maxHeartbeats 4000000 in
theorem head_calls (g : Nat) (b : List Int) (w0 w : World) (hS : St w0 w g b false (.int .i64 0) (.slice none 0 0)) (hb : ∀ x ∈ b, 0 ≤ x ∧ x ≤ 255) (hl : b.length ≤ 1048576) :
    Calls Try.prog 103 #[.pointer (some ⟨g, 0, none⟩)] w fun e w' => Found w0 w' g b e ∧ Below w0.heap.size w0 w' := by
  have HS := Aside0.mk hS
  have HE := Aside0.mk (show End b b from ⟨hb, Nat.le_refl _⟩)
  have HTK := Aside0.mk (take_calls g 2 b false _ _ w0 w hS hl)
  clear hS hb
  go_enter Try.func103, Try.ntmps103
  go_wp2_with fail
  go_at_call 142
  refine HTK.out.mono ?_
  rintro e w1 ⟨⟨v1, rfl, hv1⟩, hS1, hk1⟩
  obtain ⟨A1, c1, rfl, hc1, hr1⟩ := hv1
  have HC1 := Aside0.mk hr1
  have HS1 := Aside0.mk hS1
  have hsz := HS.out.2.1.size
  clear hc1 hr1
  go_wp2_with fail
  have hrow := two_row (w1.alloc (.cells #[.int .u8 84, .int .u8 71] 5)) w1.heap.size 84 71 (heap_alloc_new w1 _)
  have heq := Try.bytes_Equal (.slice A1 (takeS 2 b false).1.length c1) (.slice (some ⟨w1.heap.size, 0, none⟩) 2 2) (takeS 2 b false).1 [84, 71] (w1.alloc (.cells #[.int .u8 84, .int .u8 71] 5)) (Kd.C_string Try.underlying33 Try.underlying5 Try.underlying9 (Kd.C_below HC1.out (grew_trans HS1.out.2.1 (below_alloc (Below.refl _ _) _)))) (Kd.C_string Try.underlying33 Try.underlying5 Try.underlying9 hrow)
  have hbq : (Go.Lib.bytesOf (takeS 2 b false).1 == Go.Lib.bytesOf [84, 71]) = decide ((takeS 2 b false).1 = [84, 71]) := by
    have := same_bytes (takeS 2 b false).1 [84, 71] (fun x hx => by
      unfold takeS at hx
      split at hx
      · exact HE.out.1 x (List.mem_of_mem_take hx)
      · cases hx) (by intro x hx; simp at hx; omega)
    rw [Go.Lib.strOfNums_toList, Go.Lib.strOfNums_toList] at this
    exact this
  rw [hbq] at heq
  clear hbq hrow
  refine heq.mono ?_
  rintro e w2 ⟨rfl, hw2⟩
  have HS2 := Aside0.mk (show St w0 w2 g (takeS 2 b false).2.1 (takeS 2 b false).2.2 (.int .i64 0) (.slice none 0 0) from by rw [hw2]; exact HS1.out.below (below_alloc (Below.refl _ _) _))
  clear hw2 heq
  by_cases hT : (takeS 2 b false).1 = [84, 71]
  case neg =>
    have HI := Aside0.mk (show implP b = none from by
      unfold implP
      rw [if_neg]
      intro h
      apply hT
      unfold takeS
      have : 2 ≤ b.length := by have := congrArg List.length h; simp at this; omega
      rw [if_pos this]
      exact h)
    rw [decide_eq_false hT]
    go_wp2
    go_ret
    refine ⟨?_, HS2.out.2.1⟩
    unfold Found
    rw [HI.out]
    exact rfl
  case pos =>
    have h2 : 2 ≤ b.length ∧ b.take 2 = [84, 71] := by
      unfold takeS at hT
      by_cases h : 2 ≤ b.length
      · rw [if_pos h] at hT; exact ⟨h, hT⟩
      · rw [if_neg h] at hT; cases hT
    have ht : takeS 2 b false = (b.take 2, b.drop 2, false) := if_pos h2.1
    have HI := Aside0.mk (show implP b = rdHead 5 (b.drop 2) from if_pos h2.2)
    rw [decide_eq_true hT]
    have hS2 := HS2.out
    rw [ht] at hS2
    have HS3 := Aside0.mk hS2
    have HE3 := Aside0.mk (HE.out.drop (r' := b.drop 2) ⟨2, rfl⟩)
    clear ht h2 hT hS2 HS2 HS1 HC1 HTK
    have hbd := Aside0.mk (head_bad (b.drop 2))
    have hok := Aside0.mk (head_ok (b.drop 2))
    have q1 := Aside0.mk (numS_sub (b.drop 2) false HE3.out.1)
    have n1 := Aside0.mk (number_calls g (b.drop 2) false _ _ w0 w2 HS3.out HE3.out.1 (by have := HE3.out.2; omega))
    generalize hN1 : numS (b.drop 2) false = N1 at hbd hok q1 n1
    have HE4 := Aside0.mk (HE3.out.drop q1.out.1)
    go_wp2_with fail
    go_at_call 143
    refine n1.out.mono ?_
    rintro e w3 ⟨rfl, hS3, hk3⟩
    have HS4 := Aside0.mk (hS3.put2 (.int .i64 (N1.1 : Int)))
    obtain ⟨_, _, ca2, fa2, ca3, fa3⟩ := hS3.cell
    have q2 := Aside0.mk (numS_sub N1.2.1 N1.2.2 HE4.out.1)
    have n2 := Aside0.mk (number_calls g N1.2.1 N1.2.2 _ _ w0 _ HS4.out HE4.out.1 (by have := HE4.out.2; omega))
    generalize hN2 : numS N1.2.1 N1.2.2 = N2 at hbd hok q2 n2
    have HE5 := Aside0.mk (HE4.out.drop q2.out.1)
    have hn2 := q2.out.2
    clear hS3 hk3
    go_wp2_with fail
    go_at_call 143
    refine n2.out.mono ?_
    rintro e w4 ⟨rfl, hS5, hk5⟩
    have HS5 := Aside0.mk hS5
    obtain ⟨cb1, fb1, cb2, fb2, cb3, fb3⟩ := hS5.cell
    clear ca2 fa2 ca3 fa3 hS5 hk5 n1 n2 HS4 HS3 hN1 hN2 HE3 HE4 q1 q2
    obtain ⟨n, r0, bad0⟩ := N2
    have hbd : Aside0 (bad0 = true → rdHead 5 (b.drop 2) = none) := hbd
    have hok : Aside0 (bad0 = false → rdHead 5 (b.drop 2) = if n ≤ 1000 then (rdLines 5 n r0).map fun l => ((N1.1 : Int), l.1) else none) := hok
    have HS5 : Aside0 (St w0 w4 g r0 bad0 (.int .i64 (N1.1 : Int)) (.slice none 0 0)) := HS5
    have HE5 : Aside0 (End b r0) := HE5
    have hn2 : n < 34359738368 := hn2
    have cb1 : w4.cell? ⟨g, 1, none⟩ = some (.bool bad0) := cb1
    cases bad0 with
    | true =>
      go_wp2
      go_ret
      refine ⟨?_, HS5.out.2.1⟩
      unfold Found
      rw [HI.out, hbd.out (by simp)]
      exact rfl
    | false =>
      by_cases hn : n ≤ 1000
      case neg =>
        have hnz : (n : Int) > 1000 := by omega
        go_wp2
        go_ret
        refine ⟨?_, HS5.out.2.1⟩
        unfold Found
        rw [HI.out, hok.out (by simp), if_neg hn]
        exact rfl
      case pos =>
        have hnz : ¬ (n : Int) > 1000 := by omega
        have HI2 := Aside0.mk (HI.out.trans ((hok.out (by simp)).trans (if_pos hn)))
        clear hok hbd HI
        go_wp2
        go_loopg [32] n (fun gg s32 wr => ∃ (j : Nat) (acc : List (List Int)) (r : List Int) (bad : Bool) (A3 : Option Addr) (c3 : Nat), j ≤ n ∧ n - j ≤ gg ∧ s32 = .int .i64 (j : Int) ∧ acc.length = j ∧ Aside0 (St w0 wr g r bad (.int .i64 (N1.1 : Int)) (.slice A3 acc.length c3)) ∧ Aside0 (Ls w0 wr (.slice A3 acc.length c3) acc) ∧ Aside0 ((Value.slice A3 acc.length c3).ownBlock ≠ some g) ∧ Aside0 (Rel n r0 j acc r bad) ∧ Aside0 (End b r))
        case atStart => exact ⟨0, [], r0, false, none, 0, by omega, by omega, rfl, rfl, HS5, ⟨⟨[], ⟨rfl, .inl ⟨rfl, rfl⟩⟩, Reps.none _ _⟩⟩, ⟨by simp [Value.ownBlock]⟩, ⟨fun _ => by cases rdLines 5 n r0 <;> simp, fun e => Bool.noConfusion e⟩, HE5⟩
        case round =>
          obtain ⟨j, acc, r, bad, A3, c3, hj, hg, rfl, ha, HS6, HL6, HN6, HR6, HE6⟩ := hrel
          have HAL := Aside0.mk ha
          clear ha
          obtain ⟨d1, e1, d2, e2, d3, e3⟩ := HS6.out.cell
          by_cases hlt : j < n
          · have hltz : (j : Int) < (n : Int) := by omega
            have q1 := Aside0.mk (numS_sub r bad HE6.out.1)
            have q1n := q1.out.2
            have HR7 := Aside0.mk (HR6.out.step hlt)
            have HE7 := Aside0.mk (show End b (lineS r bad).2.1 from (HE6.out.drop q1.out.1).drop (takeS_sub (numS r bad).1 (numS r bad).2.1 (numS r bad).2.2))
            have hnum : ∀ W, Below wr.heap.size wr W → Calls Try.prog 143 #[.pointer (some ⟨g, 0, none⟩)] W fun e w' => e = .returned (.int .i64 ((numS r bad).1 : Int)) ∧ St w0 w' g (numS r bad).2.1 (numS r bad).2.2 (.int .i64 (N1.1 : Int)) (.slice A3 acc.length c3) ∧ Kept W w' (fun k => k = g) := fun W hW => number_calls g r bad _ _ w0 W (HS6.out.below hW) HE6.out.1 (by have := HE6.out.2; omega)
            have htk : ∀ W, St w0 W g (numS r bad).2.1 (numS r bad).2.2 (.int .i64 (N1.1 : Int)) (.slice A3 acc.length c3) → Calls Try.prog 142 #[.pointer (some ⟨g, 0, none⟩), .int .i64 ((numS r bad).1 : Int)] W fun e w' => (∃ v, e = .returned v ∧ HelpB.tB.K w0 (lineS r bad).1 v) ∧ St w0 w' g (lineS r bad).2.1 (lineS r bad).2.2 (.int .i64 (N1.1 : Int)) (.slice A3 acc.length c3) ∧ Kept W w' (fun k => k = g) := fun W hW => take_calls g (numS r bad).1 (numS r bad).2.1 (numS r bad).2.2 _ _ w0 W hW (by have := (HE6.out.drop q1.out.1).2; omega)
            have HNUM := Aside0.mk hnum
            have HTK := Aside0.mk htk
            clear hnum htk
            generalize (numS r bad).1 = m at HNUM HTK q1n
            generalize (numS r bad).2.1 = rn at HNUM HTK
            generalize (numS r bad).2.2 = bn at HNUM HTK
            generalize lineS r bad = L at HR7 HTK HE7
            have HNE : (Value.slice A3 acc.length c3).ownBlock ≠ some g := HN6.out
            go_wp2_with fail
            go_region_law (first | (go_simp; go_at_call 143; refine (HNUM.out _ (by repeat (first | exact Below.refl _ _ | apply below_alloc | apply below_drew1 | apply pw_below_drewN))).mono ?_; rintro e w5 ⟨rfl, hs5, hk5⟩; have HK5 := Aside0.mk (show Kept wr w5 (fun k => k = g) from (Kept.of_below (by repeat (first | exact Below.refl _ _ | apply below_alloc | apply below_drew1 | apply pw_below_drewN)) _).then_ hk5 (fun _ h => .inl h)); have HS7 := Aside0.mk hs5; obtain ⟨_, _, _, _, f3c, f3f⟩ := hs5.cell; clear hs5 hk5) | (go_simp; go_at_call 142; refine (HTK.out _ (HS7.out.below (by repeat (first | exact Below.refl _ _ | apply below_alloc | apply below_drew1 | apply pw_below_drewN)))).mono ?_; rintro e w6 ⟨⟨v6, rfl, hv6⟩, hs6, hk6⟩; have HK6 := Aside0.mk (show Kept wr w6 (fun k => k = g) from (HK5.out.below (by repeat (first | exact Below.refl _ _ | apply below_alloc | apply below_drew1 | apply pw_below_drewN))).then_ hk6 (fun _ h => .inl h)); have HS8 := Aside0.mk hs6; obtain ⟨_, _, _, _, g3c, g3f⟩ := hs6.cell; have HV6 := Aside0.mk hv6; obtain ⟨A6, c6, rfl, _, _⟩ := hv6; obtain ⟨_, _, _, _, g4c, g4f⟩ := (HS8.out.below (below_alloc (Below.refl _ _) (.cells #[.slice A6 L.1.length c6] 33))).cell; clear hs6 hk6) | (refine OwnRow.append_step (R := kB.K w0) (w0 := w0) w0.heap.size (by first | rfl | simp [Region.wanted]) (.tmp 38) (.tmp 47) 41 33 (.slice none 0 0) 1 24 (by rfl) Try.underlying41 infoBB rfl (by decide) (by omega) (.slice A3 acc.length c3) acc L.1 [.slice A6 L.1.length c6] (by first | rfl | (simp; done) | (simp; rfl)) (by first | rfl | (simp; done) | (simp; rfl)) ?hp rfl ?h1 ?HO ?HB ?hb (by have := HAL.out; omega) ?_; (case hp => (obtain ⟨Ax, cx, ex, hx1, hx2⟩ := HV6.out; exact ⟨Ax, cx, by rw [ex], hx1, hx2⟩)); (case h1 => intro u hu; rw [List.mem_singleton.1 hu]; rfl); (case HO => exact Ls.kept HL6.out (HK6.out.below (by repeat (first | exact Below.refl _ _ | apply below_alloc | apply below_drew1 | apply pw_below_drewN))) HNE); (case HB => exact below_step HS8.out.2.1 (by repeat (first | exact Below.refl _ _ | apply below_alloc | apply below_drew1 | apply pw_below_drewN))); (case hb => exact (below_step HS8.out.2.1 (by repeat (first | exact Below.refl _ _ | apply below_alloc | apply below_drew1 | apply pw_below_drewN))).size); intro v9 w9 hO9 hB9 hg9 hat9; obtain ⟨A9, c9, rfl, _⟩ := OwnRow.slice_ hO9; have HS9 := Aside0.mk (St.grown (HS8.out.below (by repeat (first | exact Below.refl _ _ | apply below_alloc | apply below_drew1 | apply pw_below_drewN))) hg9 HNE hB9); have HO9 := Aside0.mk hO9; have HA9 := Aside0.mk hat9; have HX9 := Aside0.mk hg9.size; obtain ⟨_, _, _, _, i3c, i3f⟩ := HS9.out.cell; clear hO9 hB9 hg9 hat9))
            all_goals
              go_wp2
              go_roundg (n - (j + 1))
              case measure => omega
              case rel =>
                have HN9 : (Value.slice A9 (acc ++ [L.1]).length c9).ownBlock ≠ some g := by
                  rcases HA9.out with h | ⟨b', h, hb'⟩
                  · rw [h]; exact HNE
                  · rw [h]
                    intro e
                    injection e with e
                    have h1 := HS8.out.lt
                    have h2 : w6.heap.size ≤ b' := hb'
                    omega
                refine ⟨j + 1, acc ++ [L.1], L.2.1, L.2.2, A9, c9, by omega, by omega, by go_num, by rw [List.length_append, HAL.out]; rfl, ⟨?_⟩, ⟨?_⟩, ⟨HN9⟩, HR7, HE7⟩
                · have h1 := HS9.out.put3 (.slice A9 (acc ++ [L.1]).length c9)
                  rw [List.length_append] at h1 ⊢
                  exact h1
                · have h1 := Ls.kept HO9.out (kept_set w9 g 3 (.slice A9 (acc ++ [L.1]).length c9)) HN9
                  rw [List.length_append] at h1 ⊢
                  exact h1
          · have hltz : ¬ (j : Int) < (n : Int) := by omega
            obtain rfl : j = n := by omega
            cases bad with
            | true =>
              go_wp2
              go_ret
              refine ⟨?_, HS6.out.2.1⟩
              unfold Found
              rw [HI2.out, HR6.out.2 (by simp)]
              exact rfl
            | false =>
              have hr := HR6.out.1 rfl
              rw [Nat.sub_self] at hr
              have e0 : rdLines 5 0 r = some ([], r) := rfl
              rw [e0, Option.map_some, List.append_nil] at hr
              have HR8 := Aside0.mk (show implP b = some ((N1.1 : Int), acc) from by rw [HI2.out, hr]; rfl)
              clear hr e0
              have hK : HelpBB.tBB.K wr acc (.slice A3 acc.length c3) := by
                obtain ⟨A', c', e', hl', hR'⟩ := OwnRow.reads HL6.out
                exact ⟨A', c', e', hl', ReadsRow.imp_ hR' (Below.refl _ _) (fun p c h => kB.K_below HS6.out.2.1 h)⟩
              have HK := Aside0.mk hK
              clear hK
              go_wp2
              go_ret
              refine ⟨?_, HS6.out.2.1⟩
              unfold Found
              rw [HR8.out]
              exact ⟨rfl, r, _, HS6.out, HK.out⟩
end Go.Proofs.Ytmgmdnmfalepkaa.DecB

namespace Go.Proofs.Ytmgmdnmfalepkaa.PSort
open Go.RowKit Go.Proofs.YtmgmdnmfalepkaaW.PrintWords Go.Proofs.Ytmgmdnmfalepkaa.PKit
theorem upTo_spec (zs : List Int) (hs : zs.Pairwise (· ≤ ·)) : ∀ m, m ≤ zs.length → Asc (Go.Lib.compactUpTo zs.toArray m) ∧ ∀ x, x ∈ Go.Lib.compactUpTo zs.toArray m ↔ x ∈ zs.take m := by
  intro m
  induction m with
  | zero =>
    intro _
    have e : Go.Lib.compactUpTo zs.toArray 0 = [] := rfl
    rw [e]
    simp
  | succ m ih =>
    intro hm
    obtain ⟨h1, h2⟩ := ih (by omega)
    have ht : zs.take (m + 1) = zs.take m ++ [zs[m]] := List.take_succ_eq_append_getElem (by omega)
    have hg : zs.toArray[m]! = zs[m] := by simp [getElem!_pos, show m < zs.length by omega]
    have hmon : ∀ i j (hi : i < zs.length) (hj : j < zs.length), i < j → zs[i] ≤ zs[j] := fun i j hi hj hij => List.pairwise_iff_getElem.1 hs i j hi hj hij
    rw [Go.Lib.compactUpTo_succ, ht]
    by_cases hk : Go.Lib.keeps zs.toArray m = true
    · rw [if_pos hk, hg]
      constructor
      · refine List.pairwise_append.2 ⟨h1, by simp, fun a ha b hb => ?_⟩
        obtain rfl : b = zs[m] := by simpa using hb
        have ha' := (h2 a).1 ha
        obtain ⟨i, hi, rfl⟩ := List.getElem_of_mem ha'
        rw [List.length_take] at hi
        rw [List.getElem_take]
        have hm0 : m ≠ 0 := by omega
        unfold Go.Lib.keeps at hk
        have hk := of_decide_eq_true hk
        rcases hk with hk | hk
        · exact absurd hk hm0
        · have hg1 : zs.toArray[m - 1]! = zs[m - 1] := by simp [getElem!_pos, show m - 1 < zs.length by omega]
          rw [hg, hg1] at hk
          have e1 : zs[i] ≤ zs[m - 1] := by
            by_cases hi1 : i = m - 1
            · subst hi1; exact Int.le_refl _
            · exact hmon i (m - 1) (by omega) (by omega) (by omega)
          have e2 := hmon (m - 1) m (by omega) (by omega) (by omega)
          omega
      · intro x
        rw [List.mem_append, List.mem_append, h2 x]
    · rw [if_neg hk, List.append_nil]
      refine ⟨h1, fun x => ?_⟩
      rw [h2 x, List.mem_append]
      constructor
      · exact .inl
      · rintro (h | h)
        · exact h
        · obtain rfl : x = zs[m] := by simpa using h
          unfold Go.Lib.keeps at hk
          have hk : ¬ (m = 0 ∨ zs.toArray[m]! ≠ zs.toArray[m - 1]!) := fun hh => hk (decide_eq_true hh)
          have hm0 : m ≠ 0 := fun e => hk (.inl e)
          have hg1 : zs.toArray[m - 1]! = zs[m - 1] := by simp [getElem!_pos, show m - 1 < zs.length by omega]
          have he : zs[m] = zs[m - 1] := by
            have := Decidable.not_not.1 (fun hh => hk (.inr hh))
            rwa [hg, hg1] at this
          rw [he]
          exact List.mem_take_iff_getElem.2 ⟨m - 1, by omega, rfl⟩
theorem compact_sorted (l zs : List Int) (hs : zs.Pairwise (· ≤ ·)) (hm : ∀ x, x ∈ zs ↔ x ∈ l) : Go.Lib.compact zs = ord l := by
  obtain ⟨h1, h2⟩ := upTo_spec zs hs zs.length (Nat.le_refl _)
  refine ord_unique h1 (fun x => ?_)
  have h3 := h2 x
  rw [List.take_length, hm x] at h3
  exact h3
theorem sorted_pairwise (l : List Int) : (l.mergeSort fun x y => decide (x ≤ y)).Pairwise (· ≤ ·) := by
  have := List.pairwise_mergeSort (le := fun x y : Int => decide (x ≤ y)) (fun a b c h1 h2 => by simp at h1 h2 ⊢; omega) (fun a b => by simp; omega) l
  exact this.imp (fun h => by simpa using h)
theorem sort_compact (l : List Int) : Go.Lib.compact (l.mergeSort fun x y => decide (x ≤ y)) = ord l :=
  compact_sorted l _ (sorted_pairwise l) (fun _ => List.mem_mergeSort)
end Go.Proofs.Ytmgmdnmfalepkaa.PSort

namespace Go.Proofs.Ytmgmdnmfalepkaa.SortI
open Go.RowKit Go.Sort Go.Proofs.YtmgmdnmfalepkaaW.PrintWords Go.Proofs.YtmgmdnmfalepkaaW.PrintMore Go.Proofs.Ytmgmdnmfalepkaa.Kit Go.Proofs.Ytmgmdnmfalepkaa.PKit Go.Proofs.Ytmgmdnmfalepkaa.PSort
set_option linter.unusedVariables false
abbrev srt (l : List Int) : List Int := l.mergeSort fun x y => decide (x ≤ y)
theorem srt_length (l : List Int) : (srt l).length = l.length := List.length_mergeSort l
theorem encs_int (xs : List Int) : encs (Value.int .i64) xs = xs.map (Value.int .i64) := rfl
theorem R_block {w : World} {base : Nat} {ok : Nat → Prop} {v : Value} {xs : List Int} (h : Kd.R (Kd.int .i64) 3 w base ok v xs) :
    (v = .slice none 0 0 ∧ xs = []) ∨ ∃ g cap cur, v = .slice (some ⟨g, 0, none⟩) xs.length cap ∧ base ≤ g ∧ ok g ∧ w.heap[g]? = some (.cells cur 3 (0, 0)) ∧ xs.length ≤ cap ∧ cap ≤ maxLen ∧ cur.size = cap * 1 ∧ cur.toList.take xs.length = xs.map (Value.int .i64) := by
  have ho := Kd.own_of_R h
  rcases ho.2 with ⟨rfl, hn⟩ | ⟨g, cap, cur, rfl, hg, hb, h1, h2, h3, h4⟩
  · exact .inl ⟨rfl, List.eq_nil_of_length_eq_zero hn⟩
  · exact .inr ⟨g, cap, cur, rfl, hg, h.1 g rfl, hb, h1, h2, h3, by simpa [encs_int] using h4⟩
theorem sort_calls (v : Value) (xs : List Int) (base : Nat) (ok : Nat → Prop) (w : World) (h : Kd.R (Kd.int .i64) 3 w base ok v xs) (hl : xs.length < 4611686018427387904) :
    Calls Try.prog 75 #[v] w fun e w' => e = .returned (.tuple #[]) ∧ Kd.R (Kd.int .i64) 3 w' base ok v (srt xs) ∧ w.grownBy w' v.ownBlock := by
  rcases R_block h with ⟨rfl, rfl⟩ | ⟨g, cap, cur, rfl, hg, hok, hb, h1, h2, h3, h4⟩
  · refine (Try.slices_Sort_int_none none 0 w).mono ?_
    rintro e w' ⟨rfl, rfl⟩
    exact ⟨rfl, by simpa [srt] using h, World.grownBy.refl _ _⟩
  · refine (Try.slices_Sort_int g 0 cap xs w (holds_of_blockI hb h4) (Array.getElem?_eq_some_iff.1 hb).1 hl).mono ?_
    rintro e w' ⟨rfl, n, os, rfl⟩
    refine ⟨rfl, ?_, grownBy_sortedI _⟩
    have ho := ownsRow_sortedI (n := n) (os := os) (ts := srt xs) (srt_length xs) hg hb h1 h2 h3
    refine Kd.R_of_own (by rw [srt_length]; exact ho) (fun k hk => ?_)
    have : g = k := by simpa [Value.ownBlock] using hk
    subst this
    exact hok
theorem grow_nil (W : World) : grow W #[] = W := by simp [grow]
theorem compact_len (xs : List Int) : (Go.Lib.compact xs).length ≤ xs.length := by
  unfold Go.Lib.compact Go.Lib.compactUpTo
  rw [List.length_map]
  refine Nat.le_trans (List.length_filter_le _ _) ?_
  simp
theorem compact_calls (v : Value) (xs : List Int) (base : Nat) (ok : Nat → Prop) (w : World) (h : Kd.R (Kd.int .i64) 3 w base ok v xs) :
    Calls Try.prog 76 #[v] w fun e w' => ∃ v', e = .returned v' ∧ Kd.R (Kd.int .i64) 3 w' base ok v' (Go.Lib.compact xs) ∧ w.grownBy w' v.ownBlock := by
  rcases R_block h with ⟨rfl, rfl⟩ | ⟨g, cap, cur, rfl, hg, hok, hb, h1, h2, h3, h4⟩
  · refine (Try.slices_Compact_int_empty none 0 w).mono ?_
    rintro e w' ⟨rfl, rfl⟩
    exact ⟨_, rfl, Kd.R_nil _ _ _ _ _, World.grownBy.refl _ _⟩
  · refine (Try.slices_Compact_int g 0 cap xs w (holds_of_blockI hb h4) (by unfold maxLen at h2; omega) h1).mono ?_
    rintro e w' ⟨rfl, q, rfl⟩
    refine ⟨_, rfl, ?_, by have := grownBy_sortedI (w := w) (g := g) (n := q) (os := #[]) (Go.Lib.compact xs ++ List.replicate (xs.length - (Go.Lib.compact xs).length) 0).toArray; rwa [grow_nil] at this⟩
    have hcl := compact_len xs
    have hlen : (Go.Lib.compact xs ++ List.replicate (xs.length - (Go.Lib.compact xs).length) 0).length = xs.length := by simp; omega
    have ho := ownsRow_sortedI (n := q) (os := #[]) (ts := Go.Lib.compact xs ++ List.replicate (xs.length - (Go.Lib.compact xs).length) 0) hlen hg hb h1 h2 h3
    have hR : Kd.R (Kd.int .i64) 3 _ base ok (.slice (some ⟨g, 0, none⟩) xs.length cap) (Go.Lib.compact xs ++ List.replicate (xs.length - (Go.Lib.compact xs).length) 0) := Kd.R_of_own (by rw [hlen]; exact ho) (fun k hk => by
      have : g = k := by simpa [Value.ownBlock] using hk
      subst this
      exact hok)
    have ht := Kd.R_take hR (m := (Go.Lib.compact xs).length) (by rw [hlen]; exact hcl)
    rw [List.take_left' rfl, grow_nil] at ht
    exact ht
end Go.Proofs.Ytmgmdnmfalepkaa.SortI

namespace Go.Proofs
open Go.Shelf
def Try.sorted96_ren : Go.Shelf.Ren := ⟨fun | 6 => 96 | 8 => 138 | 9 => 75 | 11 => 170 | 13 => 129 | 12 => 128 | 23 => 166 | 24 => 167 | 14 => 157 | 15 => 158 | 16 => 159 | 17 => 160 | 18 => 161 | 19 => 162 | 20 => 163 | 21 => 164 | 22 => 165 | 25 => 175 | 26 => 176 | 27 => 177 | 28 => 178 | 29 => 179 | 30 => 180 | 31 => 184 | n => n, fun | 26 => 3 | 28 => 94 | 24 => 22 | 0 => 0 | 3 => 3 | 37 => 140 | 48 => 157 | 50 => 183 | 4 => 4 | 40 => 175 | 39 => 174 | 45 => 89 | 5 => 5 | 9 => 9 | 51 => 188 | 55 => 192 | 57 => 197 | 58 => 149 | 33 => 107 | n => n, fun | n => n⟩
theorem Try.sorted96 : Go.Proofs.SlLaysZI.n6 Try.prog Try.sorted96_ren := {
  mixed := by kernel_rfl
  f6 := ⟨Try.f96.name, by decide, Try.func96.trans (congrArg some (by kernel_rfl))⟩
  f8 := ⟨Try.f138.name, by decide, Try.func138.trans (congrArg some (by kernel_rfl))⟩
  f11 := ⟨Try.f170.name, by decide, Try.func170.trans (congrArg some (by kernel_rfl))⟩
  t0 := Try.underlying0
  a0 := Try.isAgg0
  z0 := Try.sizeOf0
  v0 := Try.zeroValue0
  t24 := Try.underlying22
  a24 := Try.isAgg22
  z24 := Try.sizeOf22
  v24 := Try.zeroValue22
  t26 := Try.underlying3
  a26 := Try.isAgg3
  z26 := Try.sizeOf3
  v26 := Try.zeroValue3
  t28 := Try.underlying94
  a28 := Try.isAgg94
  z28 := Try.sizeOf94
  v28 := Try.zeroValue94
  i26 := by kernel_rfl }
def Try.keys97_ren : Go.Shelf.Ren := ⟨fun | 7 => 97 | 10 => 139 | n => n, fun | 23 => 104 | 26 => 3 | 3 => 22 | 28 => 94 | 0 => 0 | 27 => 93 | 33 => 107 | 4 => 4 | n => n, fun | n => n⟩
theorem Try.keys97 : Go.Proofs.SlLaysZI.n7 Try.prog Try.keys97_ren := {
  mixed := by kernel_rfl
  f7 := ⟨Try.f97.name, by decide, Try.func97.trans (congrArg some (by kernel_rfl))⟩
  f10 := ⟨Try.f139.name, by decide, Try.func139.trans (congrArg some (by kernel_rfl))⟩
  t0 := Try.underlying0
  a0 := Try.isAgg0
  z0 := Try.sizeOf0
  v0 := Try.zeroValue0
  t4 := Try.underlying4
  a4 := Try.isAgg4
  z4 := Try.sizeOf4
  v4 := Try.zeroValue4
  t23 := Try.underlying104
  a23 := Try.isAgg104
  z23 := Try.sizeOf104
  v23 := Try.zeroValue104
  t26 := Try.underlying3
  a26 := Try.isAgg3
  z26 := Try.sizeOf3
  v26 := Try.zeroValue3
  t27 := Try.underlying93
  a27 := Try.isAgg93
  z27 := Try.sizeOf93
  v27 := Try.zeroValue93
  t28 := Try.underlying94
  a28 := Try.isAgg94
  z28 := Try.sizeOf94
  v28 := Try.zeroValue94
  t33 := Try.underlying107
  a33 := Try.isAgg107
  z33 := Try.sizeOf107
  v33 := Try.zeroValue107 }
end Go.Proofs

namespace Go.Proofs.Ytmgmdnmfalepkaa.MapG
open Go Go.ChangeMaps Go.ChangeShapes Go.RowKit Go.Sort Go.Maps Go.Shelf Go.Proofs.YtmgmdnmfalepkaaW.PrintWords Go.Proofs.YtmgmdnmfalepkaaW.PrintMore Go.Proofs.Ytmgmdnmfalepkaa.Kit Go.Proofs.Ytmgmdnmfalepkaa.PKit Go.Proofs.Ytmgmdnmfalepkaa.PSort
set_option linter.unusedVariables false
def dat (zs : List Int) : DataW Unit := match zs with | [] => .nil | z :: r => .slice (lits .i64 (z :: r)) []
theorem dat_cons {zs : List Int} (h : zs ≠ []) : dat zs = .slice (lits .i64 zs) [] := by
  cases zs with
  | nil => exact absurd rfl h
  | cons z r => rfl
theorem lits_inj {xs ys : List Int} (h : (lits .i64 xs : List (DataW Unit)) = lits .i64 ys) : xs = ys := by
  unfold lits at h
  exact (List.map_inj_right (fun a b e => by simpa using e)).1 h
theorem dat_inj {w : World} {base : Nat} {e : TypeId} {v : Value} {zs ys : List Int} (ho : w.ownsInts base e .i64 v zs) (h : dat ys = rowDatum (H := Unit) .i64 v zs) : zs = ys := by
  rcases ho.datum (H := Unit) with ⟨h1, h2⟩ | h1
  · rw [h1] at h
    rw [h2]
    cases ys with
    | nil => rfl
    | cons y r => cases h
  · rw [h1] at h
    cases ys with
    | nil => cases h
    | cons y r =>
      rw [dat_cons (by simp)] at h
      exact (lits_inj (by injection h)).symm
structure Grp (f : Int → List Int) (D : DataW Unit) : Prop where
  at_ : ∀ k, D.atKey (.int .i64 k) .nil = dat (f k)
  has_ : ∀ k, Maps.has D (.int .i64 k) = true ↔ f k ≠ []
  map_ : IsMap D
theorem Grp.start : Grp (fun _ => []) (.map []) := ⟨fun _ => rfl, fun k => by simp [Maps.has_eq], isMap_empty⟩
theorem Grp.put {f g : Int → List Int} {D : DataW Unit} (h : Grp f D) {k : Int} {d : DataW Unit} (hd : d = dat (g k)) (hk : g k ≠ []) (ho : ∀ j, j ≠ k → g j = f j) : Grp g (D.put (.int .i64 k) d) where
  at_ := fun j => by
    by_cases hj : j = k
    · subst hj
      rw [atKey_put_same h.map_ (by trivial), hd]
    · rw [atKey_put_other (fun e => hj (by simpa using e)), h.at_ j, ho j hj]
  has_ := fun j => by
    by_cases hj : j = k
    · subst hj
      rw [has_put_same h.map_ (by trivial)]
      simp [hk]
    · rw [has_put_other (fun e => hj (by simpa using e)), h.has_ j, ho j hj]
  map_ := h.map_.put _ _
theorem Grp.congr {f g : Int → List Int} {D : DataW Unit} (h : Grp f D) (e : ∀ k, f k = g k) : Grp g D := by
  have : f = g := funext e
  exact this ▸ h
theorem keyedI : Keyed Try.prog 3 := int_keyed Try.underlying3
theorem keyI (x : Int) (hx : -9223372036854775808 ≤ x ∧ x ≤ 9223372036854775807) : keyOf Try.prog 3 (.int .i64 x) = some (.int .i64 x) := by
  have hw : (Lit.int .i64 x).wf = true := by exact WalkArith.wf_i64 hx
  simp [keyOf, Try.underlying3, mapKey, hw]
theorem zeroR (W : World) : (zeroValue 22).run Try.prog W = .ok (.slice none 0 0) W := Try.zeroValue22 W
theorem entries {w : World} {base b n : Nat} {D : DataW Unit} (h : w.ownsGroups Try.prog 3 base 3 .i64 b n D) : ∃ Ent : Value → Value → Prop,
    (∀ (W : World) (x : Int), W.heap[b]? = w.heap[b]? → (-9223372036854775808 ≤ x ∧ x ≤ 9223372036854775807) → ∃ v zs, (Instr.lookup 104 (.map (some b)) (.int .i64 x) false).run Try.prog W = .ok v W ∧ D.atKey (.int .i64 x) .nil = rowDatum .i64 v zs ∧ w.ownsInts base 3 .i64 v zs ∧ Ent (.int .i64 x) v) ∧
    (∀ k1 v1 k2 v2, Ent k1 v1 → Ent k2 v2 → k1 ≠ k2 → ∀ g, some g = v1.ownBlock → some g = v2.ownBlock → False) := by
  obtain ⟨es, clock, hb, F, hs, rfl, hbb, hlen, hap⟩ := h
  refine ⟨fun k v => v = .slice none 0 0 ∨ ∃ e0 ∈ es.toList, e0.key = k ∧ e0.val = v, fun W x hW hx => ?_, ?_⟩
  · rcases Maps.fit_look false keyedI Try.underlying104 (zeroR W) (hW.trans hb) F (keyI x hx) with ⟨hrun, _, hat⟩ | ⟨e0, y, hm0, h3, hrun, hR, hat, _⟩
    · exact ⟨.slice none 0 0, [], hrun, hat _, World.ownsInts_nil _ _ _ _, .inl rfl⟩
    · obtain ⟨zs, ho, rfl⟩ := rowElem_inv hR
      exact ⟨e0.val, zs, hrun, hat _, ho, .inr ⟨e0, hm0, h3, rfl⟩⟩
  · rintro k1 v1 k2 v2 h1 h2 hne g hg1 hg2
    rcases h1 with rfl | ⟨e1, m1, rfl, rfl⟩
    · simp [Value.ownBlock] at hg1
    rcases h2 with rfl | ⟨e2, m2, rfl, rfl⟩
    · simp [Value.ownBlock] at hg2
    rcases hap e1 m1 e2 m2 hne with h | h
    · rw [h] at hg1
      cases hg1
    · exact h (hg1.symm.trans hg2)
theorem sorted_ord {L ss : List Int} (h : ss.Perm (ord L)) : ss.mergeSort (fun x y => decide (x ≤ y)) = ord L := by
  rw [mergeSort_of_perm_i h]
  refine List.mergeSort_of_pairwise ?_
  exact (asc_ord L).imp (fun {a b} hab => by simp only [decide_eq_true_eq]; omega)
theorem keys_perm {w : World} {R : Value → Option (DataW Unit × List MemPlace)} {b n : Nat} {D : DataW Unit} {f : Int → List Int} {L : List Int} (hown : w.ownsMap Try.prog 3 R b n D) (hD : Grp f D) (hL : ∀ k, f k ≠ [] ↔ k ∈ L) : (ord L).Perm (intKeys D) := by
  obtain ⟨es, e1, hpw, _⟩ := hown.entries keyedI
  obtain ⟨es', e2, hko⟩ := hown.keysOf
  obtain rfl : es = es' := by rw [e1] at e2; simpa using e2
  subst e1
  refine perm_intKeys hpw (fun p hp => ?_) ((asc_ord L).imp (fun {a b} hab => by intro e; omega)) (fun x => ?_)
  · obtain ⟨v, hv⟩ := hko p hp
    obtain ⟨x, _, hx, _⟩ := Maps.keyOf_i64 Try.underlying3 hv
    exact ⟨x, hx⟩
  · rw [mem_ord, hD.has_ x, hL x]
theorem sortsIn (m : Nat) : AnyZI.SortsIn Try.prog Try.sorted96_ren Fence.wide m :=
  ⟨fun blk off cap ss W hH hblk hsz => callsIn_wide.2 (Try.slices_Sort_int blk off cap ss W hH hblk hsz),
   fun p cap W => callsIn_wide.2 (Try.slices_Sort_int_none p cap W)⟩
theorem keys_calls (mb : Option Nat) (W : World) : Calls Try.prog 97 #[.map mb] W fun e w' => e = .returned (.func (.func 139) #[] #[.pointer (some ⟨W.heap.size, 0, none⟩)]) ∧ w' = W.alloc (.cells #[.map mb] 104) :=
  (callsIn_wide (n := 6)).1 (AnyZI.keys_in Try.keys97 Fence.wide 6 trivial rfl mb W)
theorem sorted_calls {R : Value → Option (DataW Unit × List MemPlace)} {b n : Nat} {D : DataW Unit} {f : Int → List Int} {L : List Int} (w : World) (hown : w.ownsMap Try.prog 3 R b n D) (hD : Grp f D) (hL : ∀ k, f k ≠ [] ↔ k ∈ L) (hn : n * 8 ≤ 140737488355328) :
    Calls Try.prog 96 #[.func (.func 139) #[] #[.pointer (some ⟨w.heap.size, 0, none⟩)]] (w.alloc (.cells #[.map (some b)] 104)) fun e w' =>
      ∃ v, e = .returned v ∧ Kd.R (Kd.int .i64) 3 w' w.heap.size (fun _ => True) v (ord L) ∧ Below w.heap.size w w' := by
  have hsz := hown.size_le
  have hown' : (w.alloc (.cells #[.map (some b)] 104)).ownsMap Try.prog 3 R b n D := hown.alloc _
  have hseq : SeqGives Fence.wide 2 Try.prog 139 #[.pointer (some ⟨w.heap.size, 0, none⟩)] encZ (fun ss => ss.Perm (intKeys D)) (Maps.size D) (w.alloc (.cells #[.map (some b)] 104)) :=
    AnyZI.keys_gives (ρ := Try.keys97_ren) { Try.keys97 with } Fence.wide _ trivial rfl (by omega) w.heap.size b n D _ (by simp) (by simp) hown'
  have cS := AnyZI.sorted_in Try.sorted96 Fence.wide 5 trivial trivial trivial trivial rfl (by omega) (sortsIn _) (enters_of Try.func75 (by kernel_rfl) rfl) 139 #[.pointer (some ⟨w.heap.size, 0, none⟩)] trivial (enters_of Try.func139 (by kernel_rfl) rfl) _ _ (by unfold maxLen; omega) (by omega) _ hseq
  change CallsIn _ _ Try.prog 96 _ _ _ at cS
  refine (callsIn_wide.1 cS).mono ?_
  rintro e w' ⟨v, ss, rfl, hS, hrow, hnil, hb⟩
  have hp : ss.Perm (ord L) := hS.trans (keys_perm hown hD hL).symm
  rw [sorted_ord hp] at hrow
  have hl : ss.length = (ord L).length := hp.length_eq
  rw [hl] at hrow
  refine ⟨v, rfl, Kd.R_of_own (ownsRow_base_a hrow (by simp)) (fun _ _ => trivial), ((Below.refl _ w).alloc (Nat.le_refl _) _).trans (hb.mono (by simp))⟩
end Go.Proofs.Ytmgmdnmfalepkaa.MapG
