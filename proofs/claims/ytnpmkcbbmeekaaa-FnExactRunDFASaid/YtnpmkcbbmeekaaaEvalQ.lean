/- impl.EvalQuery: whether some clause has all its numbers in the list: for every query and list that read as lists of whole numbers of 64 bits. -/
import Derived.Test.YtnpmkcbbmeekaaaIdxII
import Derived.Test.YtnpmkcbbmeekaaaMapI
namespace Go.Proofs.Ytnpmkcbbmeekaaa.EvalQ
open Go.RowKit Go.Proofs.YtnpmkcbbmeekaaaW.PrintWords Go.Proofs.YtnpmkcbbmeekaaaW.PrintMore Go.Proofs.Ytnpmkcbbmeekaaa.Kit Go.Proofs.Ytnpmkcbbmeekaaa.MapI
set_option linter.unusedVariables false

def cnt (l : List Int) (x : Int) : Int := (l.count x : Nat)
theorem zero3 (w : World) : (zeroValue 3).run Try.prog w = .ok (.int .i64 0) w := by kernel_rfl
theorem infoI : (Try.prog.info? 3).map (fun i => (i.zero, i.size, i.bytes)) = some (some (.int .i64 0), 1, 8) := by kernel_rfl

/-- What the closure captures, as it lies in memory. -/
structure Cap (w : World) (gm ga mb n : Nat) (f : Int → Int) : Prop where
  m : w.cell? ⟨gm, 0, none⟩ = some (.map (some mb))
  a : w.cell? ⟨ga, 0, none⟩ = some (.func (.func 40) #[] #[.pointer (some ⟨gm, 0, none⟩), .pointer (some ⟨ga, 0, none⟩)])
  map : At Try.prog 3 3 w mb n f
theorem Cap.drewN {w : World} {gm ga mb n : Nat} {f : Int → Int} (h : Cap w gm ga mb n f) (q : Nat) : Cap (w.drewN q) gm ga mb n f :=
  ⟨h.m, h.a, h.map.drewN q⟩

set_option maxHeartbeats 1000000 in
theorem all_calls (f : Int → Int) (gm ga mb n : Nat) : ∀ (xs : List Int) (A : Option Addr) (c : Nat) (w : World), Cap w gm ga mb n f → Kd.C (Kd.int .i64) w A xs.length xs → xs.length ≤ c → (∀ x ∈ xs, W64 x) →
    Calls Try.prog 40 #[.slice A xs.length c, .pointer (some ⟨gm, 0, none⟩), .pointer (some ⟨ga, 0, none⟩)] w fun e w' => e = .returned (.bool (xs.all fun x => decide (0 < f x))) ∧ ∃ q, w' = w.drewN q := by
  intro xs
  induction xs with
  | nil =>
    intro A c w hC hr hc hw
    obtain ⟨hm, ha, hmap⟩ := hC
    clear hr hmap
    have e0 : (((([] : List Int).length : Nat) : Int) == 0) = true := rfl
    go_enter Try.func40, Try.ntmps40
    go_wp2
    go_quiet (fail)
    go_wp2
    go_ret
    exact ⟨rfl, _, rfl⟩
  | cons x xs ih =>
    intro A c w hC hr hc hw
    have hx := hw x (by simp)
    have hws : ∀ y ∈ xs, W64 y := fun y hy => hw y (by simp [hy])
    obtain ⟨ad, rfl, hcell⟩ := Kd.at_int hr 0 (by omega) (by simp)
    obtain ⟨i0, hi, hz⟩ := Option.map_eq_some_iff.1 infoI
    simp only [Prod.mk.injEq] at hz
    obtain ⟨A', hsl, hrd, hcl⟩ := print_drop_of (P := Try.prog) (Value.int .i64) (0 : Int) 26 3 .i64 Try.underlying26 hi hz.2.1 (some ad) c (x :: xs) 1 (by omega) (by simp; omega) hc
    have hr' : Kd.C (Kd.int .i64) w A' xs.length xs := Kd.C_of_reads (d := (0 : Int)) (h1 := fun _ => rfl) (hrd w (Kd.reads_of_C (enc := Value.int .i64) (d := (0 : Int)) (h1 := fun _ => rfl) hr))
    have hlen := hr.2.1
    clear hr hrd hw hi hz
    have hc0 : w.cell? ad = some (.int .i64 x) := by simpa [rd, Addr.add_zero'] using hcell
    clear hcell
    have hlk : ∀ q, (Instr.lookup 69 (.map (some mb)) (.int .i64 x) false).run Try.prog (w.drewN q) = .ok (.int .i64 (f x)) (w.drewN q) := fun q => (hC.map.drewN q).run Try.underlying3 Try.underlying69 Try.underlying3 (zero3 _) hx
    have hrec : ∀ q, Calls Try.prog 40 #[.slice A' xs.length (c - 1), .pointer (some ⟨gm, 0, none⟩), .pointer (some ⟨ga, 0, none⟩)] (w.drewN q) fun e w' => e = .returned (.bool (xs.all fun x => decide (0 < f x))) ∧ ∃ m, w' = (w.drewN q).drewN m :=
      fun q => ih A' (c - 1) (w.drewN q) (hC.drewN q) (Kd.C_below hr' (pw_below_drewN (Below.refl _ _) q)) (by simpa using hcl) hws
    obtain ⟨hm, ha, hmap⟩ := hC
    clear ih hmap hr' hws hx
    simp only [List.drop_succ_cons, List.drop_zero, Int.toNat_one, List.length_cons] at hsl hlen hcl ⊢
    generalize hb : (xs.all fun x => decide (0 < f x)) = b at hrec
    have HB := Aside0.mk hb
    clear hb
    generalize hfx : f x = y at hlk
    have HF := Aside0.mk hfx
    clear hfx
    generalize xs.length = m at *
    have e0 : ((m : Int) + 1 == 0) = false := by rw [beq_eq_false_iff_ne]; omega
    by_cases hy : 0 < y
    · go_enter Try.func40, Try.ntmps40
      go_wp2
      go_quiet ((go_at_call 40; exact Calls.quiet_of (hrec _)))
      go_wp2
      go_ret
      refine ⟨?_, _, rfl⟩
      rw [List.all_cons, HB.out, HF.out, decide_eq_true hy]; rfl
    · have hyd : decide (0 < y) = false := decide_eq_false hy
      go_enter Try.func40, Try.ntmps40
      go_wp2
      go_quiet (fail)
      go_wp2
      go_ret
      refine ⟨?_, _, rfl⟩
      rw [List.all_cons, HF.out, hyd]; rfl

/-- As many as were met so far. -/
theorem cnt_step (l : List Int) (k : Nat) (hk : k < l.length) (u : Int) : (if u = rd l k then cnt (l.take k) (rd l k) + 1 else cnt (l.take k) u) = cnt (l.take (k + 1)) u := by
  have e : l.take (k + 1) = l.take k ++ [rd l k] := by
    rw [List.take_succ_eq_append_getElem hk]
    simp [rd, List.getD, List.getElem?_eq_getElem hk]
  rw [e]
  unfold cnt
  rw [List.count_append]
  by_cases h : u = rd l k
  · subst h
    simp
  · have : (rd l k == u) = false := by rw [beq_eq_false_iff_ne]; exact Ne.symm h
    simp [h, List.count_cons, this]
theorem cnt_bd (l : List Int) (x : Int) : 0 ≤ cnt l x ∧ cnt l x ≤ l.length := by
  unfold cnt
  have := List.count_le_length (a := x) (l := l)
  omega
theorem cnt_pos (l : List Int) (x : Int) : decide (0 < cnt l x) = l.contains x := by
  unfold cnt
  have h : 0 < l.count x ↔ x ∈ l := List.count_pos_iff
  by_cases hx : x ∈ l
  · have : 0 < l.count x := h.mpr hx
    simp [hx]
  · have : l.count x = 0 := List.count_eq_zero.mpr hx
    simp [hx, this]

def val (cs : List (List Int)) (ts : List Int) : Bool := cs.any fun c => c.all fun x => ts.contains x

set_option maxHeartbeats 2000000 in
theorem calls (A0 : Option Addr) (c0 : Nat) (l0 : List (List Int)) (A1 : Option Addr) (c1 : Nat) (l1 : List Int) (w : World) (hr0 : Kd.C (Kd.slice 3 (Kd.int .i64)) w A0 l0.length l0) (hr1 : Kd.C (Kd.int .i64) w A1 l1.length l1)
    (hw0 : ∀ c ∈ l0, ∀ x ∈ c, W64 x) (hw1 : ∀ x ∈ l1, W64 x) (hl : l1.length ≤ 1048576) :
    Calls Try.prog 12 #[.agg #[.slice A0 l0.length c0], .slice A1 l1.length c1] w fun e w' => e = .returned (.bool (val l0 l1)) ∧ Below w.heap.size w w' := by
  have hmm := @run_makeMap Try.prog
  have HR0 := Aside0.mk hr0
  have HR1 := Aside0.mk hr1
  have HW1 := Aside0.mk hw1
  have HW0 := Aside0.mk hw0
  clear hr0 hr1 hw1 hw0
  go_enter Try.func12, Try.ntmps12
  go_wp2
  go_loopg [12] l1.length (fun gg s12 wr => ∃ k : Nat, k ≤ l1.length ∧ l1.length - k ≤ gg ∧ s12 = .int .i64 k ∧ Aside0 (Below w.heap.size w wr) ∧ Aside0 (At Try.prog 3 3 wr (w.heap.size + 1) k (cnt (l1.take k))) ∧
    wr.cell? ⟨w.heap.size + 1 + 1, 0, none⟩ = some (.map (some (w.heap.size + 1))) ∧ wr.cell? ⟨w.heap.size, 0, none⟩ = some (.slice A0 l0.length c0))
  case atStart =>
    refine ⟨0, Nat.zero_le _, by omega, rfl, ⟨below_alloc (below_alloc (below_alloc (Below.refl _ _) _) _) _⟩, ⟨?_⟩, ?_, ?_⟩
    · have e : cnt (l1.take 0) = fun _ => 0 := by funext u; simp [cnt]
      rw [e]
      have := (made (w.alloc (.cells #[.slice A0 l0.length c0] 29)) Try.prog 3 3).grew (below_alloc (Below.refl _ _) (.cells #[.map (some (w.heap.size + 1))] 69))
      simpa using this
    · simp [go_sem]
    · simp [go_sem]
  case round =>
    obtain ⟨k, hk, hg, rfl, HB, HM, hc2, hc0⟩ := hrel
    by_cases hlt : k < l1.length
    · have hltz : (k : Int) < (l1.length : Int) := by omega
      obtain ⟨ad, rfl, hx⟩ := Kd.at_int HR1.out (k : Int) (by omega) hltz
      simp only [Int.toNat_natCast] at hx
      replace hx := pw_cell_below HB.out hx
      have hxw : W64 (rd l1 k) := HW1.out _ (getD_mem l1 0 k hlt)
      have HS := Aside0.mk (cnt_step l1 k hlt)
      have hbd := cnt_bd (l1.take k) (rd l1 k)
      have hbl : (l1.take k).length ≤ k := List.length_take_le _ _
      go_wp2_with (first
        | (at_lookup; refine wp_lookup rfl _ _ 69 rfl Try.underlying3 Try.underlying69 Try.underlying3 (zero3 _) HM.out rfl _ rfl hxw ?_)
        | (at_mapUpdate; refine wp_store rfl _ _ _ 69 rfl Try.underlying3 Try.underlying69 Try.underlying3 HM.out (by unfold maxLen; omega) rfl _ _ rfl rfl hxw (WalkArith.wf_i64 (by omega)) ?_; intro w1 hm1 hg1))
      go_roundg (l1.length - (k + 1))
      case measure => omega
      case rel =>
        refine ⟨k + 1, by omega, by omega, by go_num, ⟨HB.out.grown hg1 HB.out.size (fun j hj => by cases hj; omega)⟩, ⟨?_⟩, ?_, ?_⟩
        · have e : (fun u => if u = rd l1 k then cnt (l1.take k) (rd l1 k) + 1 else cnt (l1.take k) u) = cnt (l1.take (k + 1)) := funext HS.out
          rw [← e]
          exact hm1
        · exact (cell_grown hg1 (by omega) hc2)
        · exact (cell_grown hg1 (by omega) hc0)
    · have hltz : ¬ (k : Int) < (l1.length : Int) := by omega
      have hkl : k = l1.length := by omega
      subst hkl
      have hM : At Try.prog 3 3 wr (w.heap.size + 1) l1.length (cnt l1) := by have := HM.out; rwa [List.take_length] at this
      have HMM := Aside0.mk hM
      clear hM HM HR1 HW1
      have eg := enters_of Try.func40 (by kernel_rfl) rfl
      have hcall := IdxII.contains_calls (Kd.slice 3 (Kd.int .i64)) rfl [] (fun c => c.all fun x => decide (0 < cnt l1 x)) 40 #[.pointer (some ⟨w.heap.size + 1 + 1, 0, none⟩), .pointer (some ⟨wr.heap.size, 0, none⟩)] eg A0 c0 l0
        (wr.alloc (.cells #[.func (.func 40) #[] #[.pointer (some ⟨w.heap.size + 1 + 1, 0, none⟩), .pointer (some ⟨wr.heap.size, 0, none⟩)]] 70)) (Kd.C_below HR0.out (below_alloc HB.out _)) (by
          intro W c u hc hb hK
          obtain ⟨A, cap, e, hl, hr⟩ := hK
          injection e with e
          subst e
          have h2 := (hb.cell (p := ⟨w.heap.size + 1 + 1, 0, none⟩) (by have h3 : w.heap.size + 1 + 1 < wr.heap.size := World.block_lt_of_cell? wr _ hc2; simp; omega)).trans (pw_cell_below (below_alloc (Below.refl _ _) _) hc2)
          refine (all_calls (cnt l1) (w.heap.size + 1 + 1) wr.heap.size (w.heap.size + 1) l1.length c A cap W ⟨h2, ?_, (HMM.out.grew (below_alloc (Below.refl _ _) _)).grew hb⟩ hr hl (HW0.out c hc)).mono ?_
          · rw [hb.cell (p := ⟨wr.heap.size, 0, none⟩) (by simp)]
            simp [go_sem]
          · rintro e w' ⟨rfl, q, rfl⟩
            exact ⟨rfl, pw_below_drewN (Below.refl _ _) q⟩)
      have HV : Aside0 ((l0.any fun c => c.all fun x => decide (0 < cnt l1 x)) = val l0 l1) := ⟨by simp only [val, cnt_pos]⟩
      generalize (l0.any fun c => c.all fun x => decide (0 < cnt l1 x)) = b at hcall HV
      have hc0' := pw_cell_below (below_alloc (Below.refl _ _) (.cells #[.func (.func 40) #[] #[.pointer (some ⟨w.heap.size + 1 + 1, 0, none⟩), .pointer (some ⟨wr.heap.size, 0, none⟩)]] 70)) hc0
      clear eg hc0
      go_wp2_with (go_at_call 41; refine hcall.mono ?_; rintro e w' ⟨rfl, hb'⟩)
      go_ret
      exact ⟨by rw [← HV.out]; rfl, grew_trans (below_alloc HB.out _) hb'⟩

def okArgs (cs : List (List Int)) (ts : List Int) : Bool := decide (ts.length ≤ 1048576) && ts.all (fun x => (Lit.int .i64 x).wf) && cs.all fun c => c.all fun x => (Lit.int .i64 x).wf
/-- What the call answers, where its arguments are whole numbers of 64 bits. -/
def fn (cs : List (List Int)) (ts : List Int) : Option Bool := if okArgs cs ts = true then some (val cs ts) else none
theorem fn_some {cs : List (List Int)} {ts : List Int} (h1 : ts.length ≤ 1048576) (h2 : ∀ x ∈ ts, W64 x) (h3 : ∀ c ∈ cs, ∀ x ∈ c, W64 x) : fn cs ts = some (val cs ts) := by
  unfold fn
  rw [if_pos]
  simp only [okArgs, Bool.and_eq_true, decide_eq_true_eq, List.all_eq_true]
  exact ⟨⟨h1, h2⟩, h3⟩
theorem printed (A0 : Option Addr) (c0 : Nat) (l0 : List (List Int)) (A1 : Option Addr) (c1 : Nat) (l1 : List Int) (r : Bool) (w : World) (hr0 : Kd.C (Kd.slice 3 (Kd.int .i64)) w A0 l0.length l0) (hr1 : Kd.C (Kd.int .i64) w A1 l1.length l1) (h : fn l0 l1 = some r) :
    Calls Try.prog 12 #[.agg #[.slice A0 l0.length c0], .slice A1 l1.length c1] w fun e w' => e = .returned (.bool r) ∧ Below w.heap.size w w' := by
  unfold fn at h
  split at h
  · rename_i hok
    obtain rfl := Option.some.inj h
    simp only [okArgs, Bool.and_eq_true, decide_eq_true_eq, List.all_eq_true] at hok
    obtain ⟨⟨h1, h2⟩, h3⟩ := hok
    exact calls A0 c0 l0 A1 c1 l1 w hr0 hr1 h3 h2 h1
  · cases h
end Go.Proofs.Ytnpmkcbbmeekaaa.EvalQ
