/- FnExactRunDFA's pure statement, last part: both runs go through the same states; the law. -/
import Derived.Test.YtnpmkcbbmeekaaaPRunE
import Derived.OpenShut
namespace Go.Proofs.Ytnpmkcbbmeekaaa.PRunD
open Go.RowKit Go.Proofs.YtnpmkcbbmeekaaaW.PrintWords Go.Proofs.Ytnpmkcbbmeekaaa.PKit Go.Proofs.Ytnpmkcbbmeekaaa.PLaw Go.Proofs.Ytnpmkcbbmeekaaa.Q Go.Proofs.Ytnpmkcbbmeekaaa.TableOk

theorem top_bd : ∀ {l : List Int} {t T : Int}, top t l = some T → t ≤ T ∧ ∀ c ∈ l, 0 ≤ c ∧ c ≤ T
  | [], t, T, h => by
    simp only [top, Option.some.injEq] at h
    subst h
    exact ⟨Int.le_refl _, by simp⟩
  | x :: l, t, T, h => by
    simp only [top] at h
    by_cases hx : x < 0 ∨ t + 1 < x
    · simp [hx] at h
    · simp only [hx, if_false] at h
      obtain ⟨h1, h2⟩ := top_bd h
      refine ⟨by omega, fun c hc => ?_⟩
      rcases List.mem_cons.1 hc with e | hc
      · subst e; omega
      · exact h2 c hc
structure Good (cls : List Int) (k : Int) (nxt : List Int) (n : Int) : Prop where
  n1 : 1 ≤ n
  n2 : n ≤ 1024
  cl : cls.length = 256
  k1 : 1 ≤ k
  k2 : k ≤ 256
  nl : (nxt.length : Int) = n * k
  cb : ∀ c ∈ cls, 0 ≤ c ∧ c ≤ k - 1
  nb : ∀ x ∈ nxt, 0 ≤ x ∧ x < n
theorem good_of {cls : List Int} {k : Int} {nxt : List Int} {acc : List Bool} (h : ok cls k nxt acc = true) : Good cls k nxt acc.length := by
  unfold ok at h
  rw [Bool.and_eq_true] at h
  obtain ⟨hs, ht⟩ := h
  unfold sizesOk at hs
  simp only [Bool.not_eq_true', Bool.or_eq_false_iff, decide_eq_false_iff_not, bne_eq_false_iff_eq] at hs
  obtain ⟨⟨⟨⟨⟨h1, h2⟩, h3⟩, h4⟩, h5⟩, h6⟩ := hs
  cases hT : top (-1) cls with
  | none => rw [hT] at ht; cases ht
  | some T =>
    rw [hT] at ht
    simp only [Bool.and_eq_true, beq_iff_eq, Bool.not_eq_true', List.any_eq_false] at ht
    obtain ⟨hk, hn⟩ := ht
    subst hk
    refine ⟨by omega, by omega, by omega, by omega, by omega, h6, (top_bd hT).2, fun x hx => ?_⟩
    have := hn x hx
    simp only [inR, Bool.or_eq_true, decide_eq_true_eq] at this
    omega
def st (cls : List Int) (k : Int) (nxt line : List Int) : Nat → Int
  | 0 => 0
  | i + 1 => rd nxt (st cls k nxt line i * k + rd cls (rd line (i : Int)))
section
variable {cls : List Int} {k : Int} {nxt line : List Int} {n : Int}
theorem rd_mem (l : List Int) (i : Int) (h0 : 0 ≤ i) (h1 : i < l.length) : rd l i ∈ l := by
  obtain ⟨m, rfl⟩ := Int.eq_ofNat_of_zero_le h0
  rw [rd_get l m (by omega)]
  exact List.getElem_mem _
theorem idx_bd {s c : Int} (h : Good cls k nxt n) (s0 : 0 ≤ s) (s1 : s < n) (c0 : 0 ≤ c) (c1 : c ≤ k - 1) : 0 ≤ s * k + c ∧ s * k + c < nxt.length ∧ s * k ≤ 1024 * 256 ∧ 0 ≤ s * k := by
  have a := h.k1
  have b := h.k2
  have d := h.n2
  have e := h.nl
  have h1 : 0 ≤ s * k := Int.mul_nonneg s0 (by omega)
  have h2 : s * k ≤ (n - 1) * k := Int.mul_le_mul_of_nonneg_right (by omega) (by omega)
  have h3 : (n - 1) * k = n * k - k := by rw [Int.sub_mul]; omega
  have h4 : s * k ≤ 1024 * 256 := Int.mul_le_mul (by omega) b (by omega) (by omega)
  omega
theorem st_bd (h : Good cls k nxt n) (hl : ∀ b ∈ line, 0 ≤ b ∧ b ≤ 255) : ∀ i, i ≤ line.length → 0 ≤ st cls k nxt line i ∧ st cls k nxt line i < n
  | 0, _ => ⟨Int.le_refl _, by have := h.n1; show 0 < n; omega⟩
  | i + 1, hi => by
    obtain ⟨s0, s1⟩ := st_bd h hl i (by omega)
    obtain ⟨b0, b1⟩ := hl _ (rd_mem line i (by omega) (by omega))
    obtain ⟨c0, c1⟩ := h.cb _ (rd_mem cls (rd line i) b0 (by have := h.cl; omega))
    obtain ⟨i0, i1, _⟩ := idx_bd h s0 s1 c0 c1
    exact h.nb _ (rd_mem nxt _ i0 i1)
/-- One step: what both texts reckon. -/
theorem st_step (h : Good cls k nxt n) (hl : ∀ b ∈ line, 0 ≤ b ∧ b ≤ 255) (i : Nat) (hi : i < line.length) :
    0 ≤ rd line i ∧ rd line i < (cls.length : Int) ∧ wrap64 (wrap64 (st cls k nxt line i * k) + rd cls (rd line i)) = st cls k nxt line i * k + rd cls (rd line i) ∧ 0 ≤ st cls k nxt line i * k + rd cls (rd line i) ∧ st cls k nxt line i * k + rd cls (rd line i) < (nxt.length : Int) ∧ wrap64 (rd line i) = rd line i := by
  obtain ⟨s0, s1⟩ := st_bd h hl i (by omega)
  obtain ⟨b0, b1⟩ := hl _ (rd_mem line i (by omega) (by omega))
  have hc := h.cl
  obtain ⟨c0, c1⟩ := h.cb _ (rd_mem cls (rd line i) b0 (by omega))
  obtain ⟨i0, i1, m0, m1⟩ := idx_bd h s0 s1 c0 c1
  have hk := h.k2
  refine ⟨b0, by omega, ?_, i0, i1, wrap_in (by omega)⟩
  rw [wrap_in (x := st cls k nxt line i * k) (by omega), wrap_in (by omega)]
def trace (cls : List Int) (k : Int) (nxt line : List Int) (i : Nat) : List Int := (List.range i).map (st cls k nxt line)
theorem trace_succ (i : Nat) : trace cls k nxt line (i + 1) = trace cls k nxt line i ++ [st cls k nxt line i] := by simp [trace, List.range_succ]
theorem trace_len (i : Nat) : (trace cls k nxt line i).length = i := by simp [trace]
theorem trace_get (i j : Nat) (h : j < i) : rd (trace cls k nxt line i) j = st cls k nxt line j := by
  rw [rd_get _ j (by rw [trace_len]; exact h)]
  simp [trace]
end
def out (cls : List Int) (k : Int) (nxt : List Int) (acc : List Bool) (line : List Int) : Bool × List Int :=
  if ok cls k nxt acc = true then (rdOf false acc (st cls k nxt line line.length), trace cls k nxt line (line.length + 1)) else (false, [])

theorem impl_ev (cls : List Int) (k : Int) (nxt : List Int) (acc : List Bool) (line : List Int) (hl : line.length ≤ 1048576) (hb : ∀ b ∈ line, 0 ≤ b ∧ b ≤ 255) : Ev (fun m => impl_RunDFA.f m cls k nxt acc line) (out cls k nxt acc line) := by
  unfold out
  refine Ev.bind (g := fun _ => impl_tableOk.f cls k nxt acc) (Ev.congr (fun _ => rfl) (Ev.now (ok cls k nxt acc))) ?_
  by_cases ho : ok cls k nxt acc = true
  · rw [if_pos ho]
    have h := good_of ho
    refine Ev.congr (fun _ => if_pos ho) ?_
    have key : ∀ (d i : Nat), i + d = line.length → Ev (fun m => impl_RunDFA.l0 m (trace cls k nxt line (i + 1)) (st cls k nxt line i) line line.length i cls k nxt acc) (rdOf false acc (st cls k nxt line line.length), trace cls k nxt line (line.length + 1)) := by
      intro d
      induction d with
      | zero =>
        intro i hd
        obtain rfl : i = line.length := by omega
        obtain ⟨s0, s1⟩ := st_bd h hb line.length (Nat.le_refl _)
        refine Ev.step (f := fun _ => some (rdOf false acc (st cls k nxt line line.length), trace cls k nxt line (line.length + 1))) (fun m => ?_) (Ev.now _)
        simp only [impl_RunDFA.l0]
        rw [if_neg (by omega), if_pos s0, if_pos s1]
      | succ d ih =>
        intro i hd
        obtain ⟨a1, a2, a3, a4, a5, _⟩ := st_step h hb i (by omega)
        refine Ev.step (fun m => ?_) (ih (i + 1) (by omega))
        simp only [impl_RunDFA.l0]
        rw [if_pos (by omega), if_pos (by omega), if_pos (by omega), if_pos a1, if_pos a2, a3, if_pos a4, if_pos a5, if_pos (by rw [trace_len]; omega), wrap_succ i (by omega), trace_succ (i + 1)]
        rfl
    exact Ev.congr (fun _ => rfl) (key line.length 0 (by omega))
  · rw [if_neg ho]
    exact Ev.congr (fun _ => if_neg ho) (Ev.now _)

theorem spec_ev (cls : List Int) (k : Int) (nxt : List Int) (acc : List Bool) (line : List Int) (hn : nxt.length ≤ 1048576) (hl : line.length ≤ 1048576) (hb : ∀ b ∈ line, 0 ≤ b ∧ b ≤ 255) : Ev (fun m => spec_RunDFA.f m cls k nxt acc line) (out cls k nxt acc line) := by
  unfold out
  refine Ev.bind (table_ev cls k nxt acc (by omega)) ?_
  by_cases ho : ok cls k nxt acc = true
  · rw [if_pos ho]
    have h := good_of ho
    refine Ev.congr (fun _ => if_pos ho) ?_
    have key : ∀ (d i : Nat), i + d = line.length + 1 → Ev (fun m => spec_RunDFA.l0 m line (trace cls k nxt line i) i cls k nxt acc) (rdOf false acc (st cls k nxt line line.length), trace cls k nxt line (line.length + 1)) := by
      intro d
      induction d with
      | zero =>
        intro i hd
        obtain rfl : i = line.length + 1 := by omega
        obtain ⟨s0, s1⟩ := st_bd h hb line.length (Nat.le_refl _)
        refine Ev.step (f := fun _ => some (rdOf false acc (st cls k nxt line line.length), trace cls k nxt line (line.length + 1))) (fun m => ?_) (Ev.now _)
        simp only [spec_RunDFA.l0]
        rw [if_neg (by omega), if_pos (by omega), if_pos (by rw [trace_len]; omega), trace_get _ _ (by omega), if_pos s0, if_pos s1]
      | succ d ih =>
        intro i hd
        refine Ev.step (fun m => ?_) (ih (i + 1) (by omega))
        simp only [spec_RunDFA.l0]
        rw [if_pos (by omega)]
        cases i with
        | zero =>
          rw [if_neg (by omega), if_pos (by rw [trace_len]; omega), wrap_succ 0 (by omega), trace_succ 0]
          rfl
        | succ j =>
          obtain ⟨a1, a2, a3, a4, a5, a6⟩ := st_step h hb j (by omega)
          have hw : wrap64 (((j + 1 : Nat) : Int) - 1) = (j : Int) := by rw [wrap_in (by omega)]; omega
          rw [if_pos (by omega), hw, if_pos (by omega), if_pos (by rw [trace_len]; omega), if_pos (by omega), a6, if_pos a1, if_pos a2, trace_get _ _ (by omega), a3, if_pos a4, if_pos a5, if_pos (by rw [trace_len]; omega), wrap_succ (j + 1) (by omega), trace_succ (j + 1)]
          rfl
    exact Ev.congr (fun _ => rfl) (key (line.length + 1) 0 (by omega))
  · rw [if_neg ho]
    exact Ev.congr (fun _ => if_neg ho) (Ev.now _)
theorem szDFA_val (a : List Int) (k : Int) (b : List Int) (c : List Bool) (ha : a.length ≤ 9223372036854775807) (hb : b.length ≤ 9223372036854775807) (hc : c.length ≤ 9223372036854775807) :
    ∃ r, laws_szDFA.f a k b c 1048576 = some r ∧ (0 ≤ r → a.length ≤ 1048576 ∧ b.length ≤ 1048576 ∧ c.length ≤ 1048576) := by
  have w1 : wrap64 (1048576 - (a.length : Int)) = 1048576 - a.length := wrap_in (by omega)
  simp only [laws_szDFA.f, laws_szIntS.f, laws_szBoolS.f, w1]
  by_cases h1 : (1048576 : Int) - a.length < 0
  · rw [if_pos h1]
    simp only [Option.bind_some]
    rw [if_pos (by omega)]
    exact ⟨_, rfl, fun h => by omega⟩
  · rw [if_neg h1]
    simp only [Option.bind_some]
    rw [if_neg h1]
    have w2 : wrap64 (1048576 - (a.length : Int) - (b.length : Int)) = 1048576 - a.length - b.length := wrap_in (by omega)
    simp only [w2]
    by_cases h2 : (1048576 : Int) - a.length - b.length < 0
    · rw [if_pos h2]
      simp only [Option.bind_some]
      rw [if_pos (by omega)]
      exact ⟨_, rfl, fun h => by omega⟩
    · rw [if_neg h2]
      simp only [Option.bind_some]
      rw [if_neg h2]
      have w3 : wrap64 (1048576 - (a.length : Int) - (b.length : Int) - (c.length : Int)) = 1048576 - a.length - b.length - c.length := wrap_in (by omega)
      simp only [w3]
      by_cases h3 : (1048576 : Int) - a.length - b.length - c.length < 0
      · rw [if_pos h3]
        simp only [Option.bind_some]
        rw [if_pos (by omega)]
        exact ⟨_, rfl, fun h => by omega⟩
      · rw [if_neg h3]
        simp only [Option.bind_some]
        rw [if_neg h3]
        exact ⟨_, rfl, fun h => by omega⟩
theorem out_len (cls : List Int) (k : Int) (nxt : List Int) (acc : List Bool) (line : List Int) : (out cls k nxt acc line).2.length ≤ line.length + 1 := by
  unfold out
  split
  · simp [trace_len]
  · simp

theorem pure (cls : List Int) (k : Int) (nxt : List Int) (acc : List Bool) (line : List Int) (h1 : cls.length ≤ 9223372036854775807) (h2 : nxt.length ≤ 9223372036854775807) (h3 : acc.length ≤ 9223372036854775807) (hw : ∀ x ∈ line, (Lit.int .u8 x).wf = true) :
    ∃ m, laws_FnExactRunDFA.f m cls k nxt acc line = some true := by
  have hb : ∀ b ∈ line, 0 ≤ b ∧ b ≤ 255 := fun b hbm => by
    exact Go.bounds_u8 (hw b hbm)
  refine Ev.rounds ?_
  by_cases c1 : (line.length : Int) > 1048576
  · exact Ev.congr (fun _ => if_pos c1) (Ev.now _)
  refine Ev.congr (fun _ => if_neg c1) ?_
  obtain ⟨r, hr, hr2⟩ := szDFA_val cls k nxt acc h1 h2 h3
  refine Ev.bind (Ev.congr (fun _ => hr) (Ev.now r)) ?_
  by_cases c2 : r < 0
  · exact Ev.congr (fun _ => if_pos c2) (Ev.now _)
  obtain ⟨l1, l2, l3⟩ := hr2 (by omega)
  refine Ev.congr (fun _ => if_neg c2) ?_
  have hD := toDFA_ev cls k nxt acc l1 l2 l3
  have hB := toByteS_ev line (by omega)
  have hS := spec_ev cls k nxt acc line l2 (by omega) hb
  have hI := impl_ev cls k nxt acc line (by omega) hb
  have hol := out_len cls k nxt acc line
  refine Ev.bind hD (Ev.bind hB (Ev.bind hS (Ev.bind hD (Ev.bind hB (Ev.bind hI ?_)))))
  generalize out cls k nxt acc line = o at *
  have hE : Ev (fun m => laws_eqIntS.f m o.2 o.2) true := eqIntS_ev _ (by omega)
  refine Ev.congr (fun _ => if_neg (by simp)) (Ev.bind hE ?_)
  obtain ⟨m, x, y, z, hM, hm0, hm1⟩ := markDFA_ev cls k nxt acc l1 l2 l3
  obtain ⟨bs, hMB⟩ := markByteS_ev line m hm0 (by omega)
  have hH := heldIntS_ev o.2.length 1 (by omega) (by omega)
  have hMI := markIntS_ev o.2 1 (by omega) (by omega)
  refine Ev.step (fun m => by simp only [laws_FnExactRunDFA.j0]; exact if_neg (by simp)) ?_
  refine Ev.bind hD (Ev.bind (eqDFA_ev cls k nxt acc l1 l2 l3) (Ev.congr (fun _ => if_pos rfl) (Ev.bind hB (Ev.bind (eqByteS_ev line (by omega)) (Ev.congr (fun _ => if_pos rfl) (Ev.bind hM (Ev.bind hMB ?_)))))))
  refine Ev.congr (fun _ => if_neg (by show ¬ (m + (line.length : Int)) < 0; omega)) (Ev.congr (fun _ => if_neg (by simp)) (Ev.bind hE ?_))
  refine Ev.step (fun m => by simp only [laws_FnExactRunDFA.j1]; exact if_neg (by simp)) ?_
  refine Ev.bind hMI (Ev.bind hH (Ev.congr (fun _ => if_neg (by omega)) (Ev.congr (fun _ => if_pos rfl) (Ev.bind hD (Ev.bind hB (Ev.bind hI (Ev.congr (fun _ => if_neg (by simp)) (Ev.bind hE ?_))))))))
  refine Ev.step (fun m => by simp only [laws_FnExactRunDFA.j2]; exact if_neg (by simp)) ?_
  exact Ev.bind hH (Ev.congr (fun _ => if_neg (by omega)) (Ev.congr (fun _ => if_pos rfl) (Ev.now _)))
end Go.Proofs.Ytnpmkcbbmeekaaa.PRunD
