import Derived.Test.YtmgmdnmfalepkaaPieces
import Derived.Test.YtmgmdnmfalepkaaSortI
import Derived.Test.YtmgmdnmfalepkaaHelpB
import Derived.Test.YtmgmdnmfalepkaaHelpI
import Derived.RangeFuncNested
import Derived.Maps.AppendAt
namespace Go.Proofs.Ytmgmdnmfalepkaa.Tri
open Go.RowKit Go.Shelf Go.Proofs.YtmgmdnmfalepkaaW.PrintWords Go.Proofs.YtmgmdnmfalepkaaW.PrintMore Go.Proofs.Ytmgmdnmfalepkaa.Kit Go.Proofs.Ytmgmdnmfalepkaa.PKit Go.Proofs.Ytmgmdnmfalepkaa.PTri Go.Proofs.Ytmgmdnmfalepkaa.PSort Go.Proofs.Ytmgmdnmfalepkaa.SortI Go.Proofs.Ytmgmdnmfalepkaa.Pieces Go.Proofs.Ytmgmdnmfalepkaa.Ty
set_option linter.unusedVariables false
attribute [local go_sem] Oper.semAt_some
theorem infoI : (Try.prog.info? 3).map (fun i => (i.zero, i.size, i.bytes)) = some (some (.int .i64 0), 1, 8) := by kernel_rfl
theorem pieces_in (n : Nat) (A : Option Addr) (len cap : Nat) (w : World) :
    CallsIn Fence.wide n Try.prog 74 #[.slice A len cap] w fun e w' => e = .returned (.func (.func 127) #[] #[.pointer (some ⟨w.heap.size, 0, none⟩)]) ∧ w' = w.alloc (.cells #[.slice A len cap] 33) := by
  refine callsIn_of_wp Try.func74 rfl trivial ?_ rfl
  simp only [Try.ntmps74, List.size_toArray, List.length_cons, List.length_nil, Nat.reduceAdd, Nat.reduceSub, Array.replicate_succ, Array.replicate_zero, List.push_toArray, List.append_toArray, List.nil_append, List.cons_append]
  gi_wp2
  go_ret
  exact ⟨rfl, rfl⟩
theorem pieces_stops (n : Nat) (Bs n₀ : Nat) (A : Option Addr) (cap : Nat) (zs : List Int) (hb : ∀ x ∈ zs, 0 ≤ x ∧ x ≤ 255) (hl : zs.length ≤ 1048576) (w : World) (hn₀ : n₀ ≤ w.heap.size) (hBs : Boxed w Bs 33 (.slice A zs.length cap))
    (hr : Kd.C (Kd.int .u8) w A zs.length zs) (hA : 0 < zs.length → ∀ ad, A = some ad → ad.block < n₀) :
    SeqStopsK Fence.wide n Try.prog 127 #[.pointer (some ⟨Bs, 0, none⟩)] (fun x : Int => #[Value.int .i64 x]) (Keeps n₀ Bs) (fun ys => ys = tris zs) (fun _ => True) (zs.length - 2) w := fun l J Jx W hW hJ _ hY h0 => by
  refine (pieces1_in n l Bs n₀ A cap zs hb hl J Jx hY w W (Nat.le_trans hn₀ hW.size) hJ ((hW.block Bs hBs.lt).trans hBs) (Kd.C_below hr hW) hA h0).mono ?_
  rintro e W' ⟨h1, h2⟩
  refine ⟨h1, ?_⟩
  rcases h2 with h2 | ⟨pre, h2⟩
  · exact .inl h2
  · exact .inr ⟨pre, trivial, h2⟩
theorem block_lt {w : World} {A : Option Addr} {n : Nat} {zs : List Int} (h : Kd.C (Kd.int .u8) w A n zs) (hn : 0 < n) : ∀ ad, A = some ad → ad.block < w.heap.size := by
  obtain ⟨ad, rfl, hc⟩ := h.2.2 hn
  rintro ad' ⟨⟩
  obtain ⟨c, _, hK, hcell⟩ := hc 0 (zs.getD 0 0) (by have := h.1; simp [List.getD, List.getElem?_eq_getElem (show 0 < zs.length by omega)])
  have hK' : c = [.int .u8 (zs.getD 0 0)] := hK
  subst hK'
  have := World.block_lt_of_cell? w _ (hcell 0 _ rfl)
  simpa [Addr.add] using this
theorem own_not_other {w : World} {base : Nat} {e : TypeId} {size n : Nat} {v : Value} {xs : List Value} (h : w.ownsRow base e size v n xs) {D : Nat} {o : Obj} (hD : w.heap[D]? = some o) (ho : o.isCells = false) : some D ≠ v.ownBlock := by
  rcases h.2 with ⟨rfl, _⟩ | ⟨g, cap, cur, rfl, _, hgb, _⟩
  · simp [Value.ownBlock]
  · intro e'
    obtain rfl : D = g := by simpa [Value.ownBlock] using e'
    rw [hgb] at hD
    cases hD
    cases ho
set_option maxRecDepth 100000 in
set_option maxHeartbeats 4000000 in
theorem tri_calls (A : Option Addr) (cap : Nat) (zs : List Int) (w : World) (hr : Kd.C (Kd.int .u8) w A zs.length zs) (hc : zs.length ≤ cap) (hb : ∀ x ∈ zs, 0 ≤ x ∧ x ≤ 255) (hl : zs.length ≤ 1048576) :
    Calls Try.prog 21 #[.slice A zs.length cap] w fun e w' => ∃ v, e = .returned v ∧ Kd.R (Kd.int .i64) 3 w' w.heap.size (fun _ => True) v (ord (tris zs)) ∧ Grew w w' := by
  refine (callsIn_wide (n := 6)).1 ?_
  obtain ⟨i0, hi, hz0, hz1, hz2⟩ := info_parts infoI
  have HR := Aside0.mk hr
  have HBD := Aside0.mk hb
  clear hr hb
  refine callsIn_of_wp_marks Try.func21 rfl trivial ?_ rfl
  simp only [Try.ntmps21, List.size_toArray, List.length_cons, List.length_nil, Nat.reduceAdd, Nat.reduceSub, Array.replicate_succ, Array.replicate_zero, List.push_toArray, List.append_toArray, List.nil_append, List.cons_append]
  gi_wp2_with (refine ⟨trivial, ?_⟩; gi_at_call 74; refine (pieces_in _ _ _ _ _).mono ?_; rintro e w' ⟨rfl, rfl⟩)
  have bO := Boxed.new (w.alloc (.cells #[] 3)) 22 (.slice (some ⟨w.heap.size, 0, none⟩) 0 0)
  have bL := Boxed.new ((w.alloc (.cells #[] 3)).alloc (.cells #[.slice (some ⟨w.heap.size, 0, none⟩) 0 0] 22)) 33 (.slice A zs.length cap)
  simp only [World.size_alloc] at bO bL
  have hrow0 : (w.alloc (.cells #[] 3)).ownsRow w.heap.size 3 1 (.slice (some ⟨w.heap.size, 0, none⟩) 0 0) 0 [] := ⟨rfl, .inr ⟨w.heap.size, 0, #[], rfl, Nat.le_refl _, heap_alloc_new w _, by simp, by simp [maxLen], rfl, rfl⟩⟩
  obtain ⟨W0, hW0⟩ : ∃ W0, ((w.alloc (.cells #[] 3)).alloc (.cells #[.slice (some ⟨w.heap.size, 0, none⟩) 0 0] 22)).alloc (.cells #[.slice A zs.length cap] 33) = W0 := ⟨_, rfl⟩
  have hsz : W0.heap.size = w.heap.size + 1 + 1 + 1 := by rw [← hW0]; simp
  have hB0 : Below w.heap.size w W0 := by rw [← hW0]; exact ((((Below.refl _ w).alloc (Nat.le_refl _) _).alloc (by simp) _).alloc (by simp; omega) _)
  have bO0 : Boxed W0 (w.heap.size + 1) 22 (.slice (some ⟨w.heap.size, 0, none⟩) 0 0) := by rw [← hW0]; exact bO.alloc _
  have hrow : W0.ownsRow w.heap.size 3 1 (.slice (some ⟨w.heap.size, 0, none⟩) 0 0) 0 [] := by rw [← hW0]; exact (hrow0.alloc _).alloc _
  rw [hW0] at bL ⊢
  clear hW0 bO hrow0
  refine wpIn_rangeFunc_ownG rfl (by omega) (gf := 127) (lb := #[.pointer (some ⟨w.heap.size + 1 + 1, 0, none⟩)]) rfl trivial (enters_of Try.func127 (by kernel_rfl) rfl)
    (pieces_stops _ (w.heap.size + 1 + 1) w.heap.size A cap zs HBD.out hl W0 (by omega) bL (Kd.C_below HR.out hB0) (fun hp => block_lt HR.out hp)) (Keeps.trans) (Keeps.turn (by omega) (by omega)) (Below.refl _ _) (fun _ => rfl)
    (fun pre W => (∃ v, Boxed W (w.heap.size + 1) 22 v ∧ W.ownsRow w.heap.size 3 1 v pre.length (pre.map (Value.int .i64)) ∧ True) ∧ Below w.heap.size w W ∧ Boxed W (w.heap.size + 1 + 1) 33 (.slice A zs.length cap))
    (fun _ _ _ => False)
    (OwnFrom.and (Own.from (holdsRow_own w.heap.size (w.heap.size + 1) 22 3 1 (fun (pre : List Int) => pre.length) (fun pre => pre.map (Value.int .i64)) (fun _ _ => True)) _) (OwnFrom.and (ownFrom_below (Nat.le_refl _) (by omega)) (Own.from (boxed_own (w.heap.size + 1 + 1) 33 (fun _ => .slice A zs.length cap)) _)))
    (fun _ _ _ _ _ hs _ _ => hs)
    ⟨⟨_, bO0, hrow, trivial⟩, hB0, bL⟩
    (fun x => { tmps := #[.slice A zs.length cap, undef, .slice none 0 0, .pointer (some ⟨w.heap.size + 1, 0, none⟩), .int .i64 x, .slice (some ⟨w.heap.size, 0, none⟩) 0 0, .slice A zs.length cap, .func (.func 127) #[] #[.pointer (some ⟨w.heap.size + 1 + 1, 0, none⟩)], .int .i64 x, undef, undef, undef, undef, undef, undef, undef, undef], defers := [] }) ?assign ?body ?done ?stop
  case assign =>
    intro l x W K hK
    gi_wp2
    exact hK
  case body =>
    rintro l pre x W ⟨⟨v, hv, hrow, _⟩, hB, hbL⟩ hlt
    have hc := hv.cell
    gi_wp2_with (gi_at_builtin; refine wpListIn_append_own _ rfl _ _ 22 rfl w.heap.size 3 i0 (.int .i64 0) 1 8 Try.underlying22 hi hz0 hz1 hz2 rfl (by decide) _ _ _ rfl (hrow.alloc _) ⟨W.heap.size, 0, none⟩ 1 1 [.int .i64 x] rfl rfl (cell_one_new _ _ _) (by simp [Value.oneCell']) (by unfold maxLen; omega) (by omega) (by have := hB.size; simp; omega) ?_; intro v' w1 hown' hgrow _; obtain ⟨g', cap', rfl⟩ := ownsRow_succ hown'; obtain ⟨hv1, hv2, hr2, hk2, hb2⟩ := hv.appended (by decide) hrow hB.size (by omega) hown' hgrow; have hc1 := hv1.cell; have hf1 := hv1.frozen)
    have hbL1 : Boxed w1 (w.heap.size + 1 + 1) 33 (.slice A zs.length cap) := (hbL.alloc _).kept hgrow (hbL.not_row (by decide) hrow)
    have hbL2 := hbL1.other (B' := w.heap.size + 1) (by omega) (.slice (some ⟨g', 0, none⟩) (pre.length + 1) cap')
    exact ⟨hk2.from _, ⟨hb2, hbL2.trans hbL.symm⟩, ⟨_, hv2, by simpa using hr2, trivial⟩, hB.trans hb2, hbL2⟩
  case done =>
    rintro D ys W hD rfl ⟨⟨v, hv, hrow, _⟩, hB, hbL⟩ hK
    have hc := hv.cell
    have hR : Kd.R (Kd.int .i64) 3 W w.heap.size (fun _ => True) v (tris zs) := Kd.R_of_own hrow (fun _ _ => trivial)
    have htl := tris_length zs
    gi_wp2_with (first | (refine ⟨trivial, ?_⟩; gi_at_call 75; refine (callsIn_wide.2 (sort_calls v _ _ _ _ hR (by omega))).mono ?_; rintro e W2 ⟨rfl, hR2, hg2⟩; have hv2 := hv.kept hg2 (hv.not_row (by decide) hrow); have hc2 := hv2.cell) | (refine ⟨trivial, ?_⟩; gi_at_call 76; refine (callsIn_wide.2 (compact_calls v _ _ _ _ hR2)).mono ?_; rintro e W3 ⟨v3, rfl, hR3, hg3⟩))
    have hne := own_not_other hrow hK rfl
    have hlt : D < W.heap.size := (Array.getElem?_eq_some_iff.1 hK).1
    have hK2 : W2.heap[D]? = some (.deferred (some [])) := (hg2.block D hlt hne).trans hK
    have hK3 : W3.heap[D]? = some (.deferred (some [])) := (hg3.block D (Nat.lt_of_lt_of_le hlt hg2.size) hne).trans hK2
    have hB2 := hB.grown hg2 hB.size (own_base hrow)
    have hB3 := hB2.grown hg3 hB2.size (own_base hrow)
    refine ⟨by simp, .inl ⟨_, _, rfl, run_takeDeferred hK3, ?_⟩⟩
    obtain ⟨inner, ho3⟩ := Kd.R_own hR3
    refine ⟨_, results_tmp rfl _ _ _, _, rfl, ?_, hB3.trans (belowK_b (w := w) (Nat.le_refl _) W3 D _ _ (by omega) hK3 rfl rfl)⟩
    rw [← sort_compact]
    exact Kd.R_grown1 hR3 rfl (grownBy_putObj' W3 D _) (own_not_other ho3 hK3 rfl)
  case stop =>
    rintro D c pre W _ _ h _
    exact h.elim
theorem specC (x0 : List Int) (v0 : Value) (w : World) (h0 : HelpB.tB.K w x0 v0) (s0 : HelpB.smallB x0) (hb : ∀ x ∈ x0, 0 ≤ x ∧ x ≤ 255) :
    Calls Try.prog 19 #[v0] w fun e w' => ∃ v', e = .returned v' ∧ HelpI.tI.K w' (ord (tris x0)) v' ∧ Grew w w' := by
  obtain ⟨A, c, rfl, hc, hr⟩ := h0
  obtain ⟨k, hk⟩ := (PTri.spec_ev x0 hb s0).rounds
  refine (L.spec_Trigrams.calls k A c x0 _ w hr hc hk).mono ?_
  rintro e w' ⟨v, rfl, h1, h2⟩
  exact ⟨v, rfl, Kd.R_reads h1, h2⟩
theorem implC (x0 : List Int) (v0 : Value) (w : World) (h0 : HelpB.tB.K w x0 v0) (s0 : HelpB.smallB x0) (hb : ∀ x ∈ x0, 0 ≤ x ∧ x ≤ 255) :
    Calls Try.prog 21 #[v0] w fun e w' => ∃ v', e = .returned v' ∧ HelpI.tI.M w' w.heap.size (fun _ => True) (ord (tris x0)) v' ∧ Grew w w' := by
  obtain ⟨A, c, rfl, hc, hr⟩ := h0
  exact tri_calls A c x0 w hr hc hb s0
theorem ans_small (x0 : List Int) (s0 : HelpB.smallB x0) (hb : ∀ x ∈ x0, 0 ≤ x ∧ x ≤ 255) : HelpI.bdI (ord (tris x0)) ∧ HelpI.cntI (ord (tris x0)) ≤ 1099511627000 := by
  have h1 := ord_len (tris x0)
  have h2 := tris_length x0
  have h3 : x0.length ≤ 1048576 := s0
  have h4 : (ord (tris x0)).length ≤ 1048576 := by omega
  exact ⟨Nat.le_trans h4 (by decide), Nat.le_trans h4 (by decide)⟩
end Go.Proofs.Ytmgmdnmfalepkaa.Tri
