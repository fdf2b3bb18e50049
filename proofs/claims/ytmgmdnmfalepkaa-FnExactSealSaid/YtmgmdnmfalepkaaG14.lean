/- Parts of the proof (see the row's own text): Build, StoK, Bld. -/
import Derived.Test.YtmgmdnmfalepkaaG12
import Derived.Test.YtmgmdnmfalepkaaG13
import Derived.Maps.GroupsBeside
import Derived.Test.YtmgmdnmfalepkaaG10
import Derived.Test.YtmgmdnmfalepkaaG6
import Derived.Test.YtmgmdnmfalepkaaG5
import Derived.Test.YtmgmdnmfalepkaaG8
import Derived.Test.YtmgmdnmfalepkaaG9
import Derived.Test.YtmgmdnmfalepkaaG7
namespace Go.Proofs.Ytmgmdnmfalepkaa.Build
open Go Go.ChangeMaps Go.RowKit Go.Maps Go.Proofs.YtmgmdnmfalepkaaW.PrintWords Go.Proofs.YtmgmdnmfalepkaaW.PrintMore Go.Proofs.Ytmgmdnmfalepkaa.Kit Go.Proofs.Ytmgmdnmfalepkaa.PKit Go.Proofs.Ytmgmdnmfalepkaa.Ty Go.Proofs.Ytmgmdnmfalepkaa.HelpBB Go.Proofs.Ytmgmdnmfalepkaa.PTri Go.Proofs.Ytmgmdnmfalepkaa.PSeg Go.Proofs.Ytmgmdnmfalepkaa.MapG Go.Proofs.Ytmgmdnmfalepkaa.HelpSeg
set_option linter.unusedVariables false
theorem infoI : (Try.prog.info? 3).map (fun i => (i.zero, i.size, i.bytes)) = some (some (.int .i64 0), 1, 8) := by kernel_rfl
theorem infoII : (Try.prog.info? 22).map (fun i => (i.zero, i.size, i.bytes)) = some (some (.slice none 0 0), 1, 24) := by kernel_rfl
theorem bad_M (w : World) (base : Nat) : tSeg.M w base (fun _ => True) (0, [], [], []) (.agg #[.int .i64 0, .slice none 0 0, .slice none 0 0, .slice none 0 0]) :=
  ⟨[.int .i64 0, .slice none 0 0, .slice none 0 0, .slice none 0 0], rfl, tys.M_mono (fun _ _ => trivial) (Tys.cons_apart (a := Ty.sc (Value.int .i64)) (ok1 := fun _ => False) rfl (Tys.cons_apart (a := HelpBB.tBB) (ok1 := fun _ => False) (Kd.S_nil _ _ _ _ _) (Tys.cons_apart (a := HelpI.tI) (ok1 := fun _ => False) (Kd.R_nil _ _ _ _ _) (Tys.M_one (a := HelpII.tII) (ok := fun _ => False) (Kd.S_nil _ _ _ _ _)) (fun _ _ h => h)) (fun _ _ h => h)) (fun _ _ h => h))⟩
theorem build_bad {b : Int} {ls : List (List Int)} (h : fits b ls = false) : build b ls = ((0, [], [], []), 4) := by
  unfold build
  rw [h]
  rfl
theorem fits_b {b : Int} {ls : List (List Int)} (h : ¬ (0 ≤ b ∧ b ≤ 1000 ∧ 1 ≤ ls.length ∧ b + (ls.length : Int) ≤ 1000 ∧ plain ls = true ∧ totalB ls ≤ 20000)) : fits b ls = false := by
  cases hf : fits b ls with
  | false => rfl
  | true =>
    refine absurd ?_ h
    unfold fits at hf
    simp only [Bool.and_eq_true, decide_eq_true_eq] at hf
    obtain ⟨⟨⟨⟨⟨h1, h2⟩, h3⟩, h4⟩, h5⟩, h6⟩ := hf
    exact ⟨h1, h2, h3, h4, h5, h6⟩
theorem build_good {b : Int} {ls : List (List Int)} (h : 0 ≤ b ∧ b ≤ 1000 ∧ 1 ≤ ls.length ∧ b + (ls.length : Int) ≤ 1000 ∧ plain ls = true ∧ totalB ls ≤ 20000) : build b ls = (seg b ls, 0) := by
  unfold build
  have : fits b ls = true := by
    unfold fits
    simp only [Bool.and_eq_true, decide_eq_true_eq]
    exact ⟨⟨⟨⟨⟨h.1, h.2.1⟩, h.2.2.1⟩, h.2.2.2.1⟩, h.2.2.2.2.1⟩, h.2.2.2.2.2⟩
  rw [this]
  rfl
theorem plain_at {ls : List (List Int)} {i : Nat} (hi : i < ls.length) (h : 10 ∈ ls.getD i []) : plain ls = false := by
  cases hp : plain ls with
  | false => rfl
  | true =>
    have h2 := List.all_eq_true.1 hp (ls.getD i []) (by
      have e : ls.getD i [] = ls[i] := by simp [List.getD, List.getElem?_eq_getElem hi]
      rw [e]
      exact List.getElem_mem hi)
    exact absurd h (of_decide_eq_true h2)
def upTo (b : Int) (ls : List (List Int)) (i j : Nat) (k : Int) : List Int := post b ls i k ++ (if k ∈ (ord (tris (ls.getD i []))).take j then [b + (i : Int)] else [])
theorem upTo_zero (b : Int) (ls : List (List Int)) (i : Nat) (k : Int) : post b ls i k = upTo b ls i 0 k := by simp [upTo]
theorem upTo_full (b : Int) (ls : List (List Int)) (i : Nat) (k : Int) : upTo b ls i (ord (tris (ls.getD i []))).length k = post b ls (i + 1) k := by
  unfold upTo
  rw [post_succ, List.take_length]
  congr 1
  by_cases h : k ∈ tris (ls.getD i [])
  · rw [if_pos ((mem_ord _ _).2 h), if_pos (show hasT ls k i = true from decide_eq_true h)]
  · rw [if_neg (fun hm => h ((mem_ord _ _).1 hm)), if_neg (by unfold hasT; rw [decide_eq_false h]; simp)]
theorem not_take {T : List Int} (h : Asc T) {j : Nat} (hj : j < T.length) : T[j] ∉ T.take j := by
  intro hm
  obtain ⟨i, hi, e⟩ := List.getElem_of_mem hm
  rw [List.length_take] at hi
  rw [List.getElem_take] at e
  have := asc_get h (show i < j by omega) hj
  omega
theorem upTo_same (b : Int) (ls : List (List Int)) (i j : Nat) (hj : j < (ord (tris (ls.getD i []))).length) :
    upTo b ls i j (ord (tris (ls.getD i [])))[j] = post b ls i (ord (tris (ls.getD i [])))[j] ∧ upTo b ls i (j + 1) (ord (tris (ls.getD i [])))[j] = post b ls i (ord (tris (ls.getD i [])))[j] ++ [b + (i : Int)] := by
  constructor
  · unfold upTo
    rw [if_neg (not_take (asc_ord _) hj), List.append_nil]
  · unfold upTo
    rw [if_pos (by rw [List.take_succ_eq_append_getElem hj]; exact List.mem_append.2 (.inr (List.mem_singleton.2 rfl)))]
theorem upTo_other (b : Int) (ls : List (List Int)) (i j : Nat) (hj : j < (ord (tris (ls.getD i []))).length) (k : Int) (hk : k ≠ (ord (tris (ls.getD i [])))[j]) : upTo b ls i (j + 1) k = upTo b ls i j k := by
  unfold upTo
  rw [List.take_succ_eq_append_getElem hj]
  simp only [List.mem_append, List.mem_singleton, hk, or_false]
theorem post_nil (b : Int) (ls : List (List Int)) (k : Int) : post b ls 0 k = [] := rfl
theorem post_ne (b : Int) (ls : List (List Int)) (k : Int) : post b ls ls.length k ≠ [] ↔ k ∈ ls.flatMap tris := by
  unfold post
  constructor
  · intro h
    rcases hx : (List.range ls.length).filter (hasT ls k) with _ | ⟨i, r⟩
    · rw [hx] at h
      exact absurd rfl h
    · have hm : i ∈ (List.range ls.length).filter (hasT ls k) := by rw [hx]; exact List.mem_cons_self ..
      obtain ⟨h1, h2⟩ := List.mem_filter.1 hm
      have hi : i < ls.length := List.mem_range.1 h1
      have h3 : k ∈ tris (ls.getD i []) := of_decide_eq_true h2
      have e : ls.getD i [] = ls[i] := by simp [List.getD, List.getElem?_eq_getElem hi]
      rw [e] at h3
      exact List.mem_flatMap.2 ⟨ls[i], List.getElem_mem hi, h3⟩
  · intro h e
    obtain ⟨l, hl, hk⟩ := List.mem_flatMap.1 h
    obtain ⟨i, hi, rfl⟩ := List.getElem_of_mem hl
    have hm : i ∈ (List.range ls.length).filter (hasT ls k) := List.mem_filter.2 ⟨List.mem_range.2 hi, decide_eq_true (by
      have e : ls.getD i [] = ls[i] := by simp [List.getD, List.getElem?_eq_getElem hi]
      rw [e]
      exact hk)⟩
    rw [List.map_eq_nil_iff] at e
    rw [e] at hm
    cases hm
theorem ownsMap_below {w W : World} {base b n : Nat} {D : DataW Unit} (h : w.ownsGroups Try.prog 3 base 3 .i64 b n D) (hb : W.heap[b]? = w.heap[b]?) : W.ownsMap Try.prog 3 (rowElem w base 3 .i64) b n D := by
  obtain ⟨es, clock, h1, F, hs, rfl, _⟩ := h
  exact ⟨es, clock, hb.trans h1, F, hs, rfl⟩
theorem groups_lt {w : World} {base b n : Nat} {D : DataW Unit} (h : w.ownsGroups Try.prog 3 base 3 .i64 b n D) : b < w.heap.size := by
  obtain ⟨es, clock, h1, _⟩ := h
  exact (Array.getElem?_eq_some_iff.1 h1).1
def okP (Ent : Value → Value → Prop) (K : List Int) (lo hi top q : Nat) : Nat → Prop := fun k => (lo < k ∧ k < hi ∧ ∃ j, j < q ∧ ∃ v, Ent (.int .i64 (K.getD j 0)) v ∧ some k = v.ownBlock) ∨ top ≤ k
theorem wpList_lookup_run {P : Program} (w : World) {ops : Array Oper} {rest : List Oper} {o : Oper} {a : Act} {Q : Exit → Act → World → Prop} (hg : o.guard = none) (m x : Operand) (t : TypeId) (hop : o.op = Op.lookup t m x false)
    {mv key v : Value} (hm : a.eval m = mv) (hx : a.eval x = key) (hrun : (Instr.lookup t mv key false).run P w = .ok v w) (hK : wpList P ops Q rest (a.put o.dst v) w) : wpList P ops Q (o :: rest) a w := by
  refine wpList_plain hg fun K' hK' => ?_
  unfold Oper.wp
  simp [execOp, hop, hm, hx, hrun, Result.andThen]
  exact hK' _ _ hK
theorem groups_below {w W : World} {base b n : Nat} {D : DataW Unit} (h : w.ownsGroups Try.prog 3 base 3 .i64 b n D) (hB : Below w.heap.size w W) : W.ownsGroups Try.prog 3 base 3 .i64 b n D :=
  h.kept (row := none) ⟨hB.os, hB.tape, hB.output, hB.size, fun k hk _ => hB.block k hk⟩ (by simp) (fun es clock hb x hx => by
    cases x.val.ownBlock with
    | none => exact .inl rfl
    | some g => exact .inr (by simp))
set_option maxRecDepth 100000 in
set_option maxHeartbeats 2000000 in
theorem build_calls (b : Int) (A : Option Addr) (c : Nat) (ls : List (List Int)) (w : World) (hr : Kd.C kB w A ls.length ls) (hc : ls.length ≤ c) (hb : Bytes ls) (hs : smallBB ls) :
    Calls Try.prog 40 #[.int .i64 b, .slice A ls.length c] w fun e w' => ∃ v, e = .returned (.tuple #[v, .int .i64 (build b ls).2]) ∧ tSeg.M w' w.heap.size (fun _ => True) (build b ls).1 v ∧ Grew w w' := by
  have huI := Try.underlying50
  have hs' : ls.length + totalB ls ≤ 1048576 := hs
  have HR := Aside0.mk hr
  have HC := Aside0.mk hc
  have HY := Aside0.mk hb
  clear hr hc hb
  by_cases c1 : b < 0
  · go_enter Try.func40, Try.ntmps40
    go_wp2_with ((with_reducible refine gate_dst (N := 4) rfl ?_); refine box_event ?hg (N := 4) ?hd (cs := #[.int .i64 0, .slice none 0 0, .slice none 0 0, .slice none 0 0]) (t := 50) ?hr ?_; (case hd => rfl); (case hg => rfl); (case hr => first | (go_simp; done) | (go_simp; rfl)); intro g1 hg w1 hbox hb; have BK1 := Aside0.mk hbox; have GE1 := Aside0.mk (show w.heap.size ≤ g1 from Nat.le_of_eq hg.symm); have GL1 := Aside0.mk (blk_lt hbox); have HB := Aside0.mk hb; clear hbox hb hg; have hcg10 : w1.cell? ⟨g1, 0, none⟩ = some (.int .i64 0) := (blk_cell BK1.out 0).trans rfl; have hfg10 := blk_frozen BK1.out 0; have hcg11 : w1.cell? ⟨g1, 1, none⟩ = some (.slice none 0 0) := (blk_cell BK1.out 1).trans rfl; have hfg11 := blk_frozen BK1.out 1; have hcg12 : w1.cell? ⟨g1, 2, none⟩ = some (.slice none 0 0) := (blk_cell BK1.out 2).trans rfl; have hfg12 := blk_frozen BK1.out 2; have hcg13 : w1.cell? ⟨g1, 3, none⟩ = some (.slice none 0 0) := (blk_cell BK1.out 3).trans rfl; have hfg13 := blk_frozen BK1.out 3)
    refine bodyPost_ret (results_ct rfl _ _ g1 50 #[.int .i64 0, .slice none 0 0, .slice none 0 0, .slice none 0 0] (0, 0) _ rfl (by (with_reducible repeat (first | refine blk_drewN ?_ _ | refine blk_drew ?_ | refine blk_alloc ?_ _)); refine blk_put (cs := #[.int .i64 0, .slice none 0 0, .slice none 0 0, .slice none 0 0]) ?_ 3 _ rfl; (with_reducible repeat (first | refine blk_drewN ?_ _ | refine blk_drew ?_ | refine blk_alloc ?_ _)); refine blk_put (cs := #[.int .i64 0, .slice none 0 0, .slice none 0 0, .slice none 0 0]) ?_ 2 _ rfl; (with_reducible repeat (first | refine blk_drewN ?_ _ | refine blk_drew ?_ | refine blk_alloc ?_ _)); refine blk_put (cs := #[.int .i64 0, .slice none 0 0, .slice none 0 0, .slice none 0 0]) ?_ 1 _ rfl; (with_reducible repeat (first | refine blk_drewN ?_ _ | refine blk_drew ?_ | refine blk_alloc ?_ _)); refine blk_put (cs := #[.int .i64 0, .slice none 0 0, .slice none 0 0, .slice none 0 0]) ?_ 0 _ rfl; (with_reducible repeat (first | refine blk_drewN ?_ _ | refine blk_drew ?_ | refine blk_alloc ?_ _)); exact BK1.out) Try.underlying50 rfl (by kernel_rfl)) rfl ?_
    rw [build_bad (fits_b (by omega))]
    exact ⟨_, rfl, bad_M _ _, below_set (below_set (below_set (below_set (HB.out) GE1.out) GE1.out) GE1.out) GE1.out⟩
  by_cases c2 : b > 1000
  · go_enter Try.func40, Try.ntmps40
    go_wp2_with ((with_reducible refine gate_dst (N := 4) rfl ?_); refine box_event ?hg (N := 4) ?hd (cs := #[.int .i64 0, .slice none 0 0, .slice none 0 0, .slice none 0 0]) (t := 50) ?hr ?_; (case hd => rfl); (case hg => rfl); (case hr => first | (go_simp; done) | (go_simp; rfl)); intro g1 hg w1 hbox hb; have BK1 := Aside0.mk hbox; have GE1 := Aside0.mk (show w.heap.size ≤ g1 from Nat.le_of_eq hg.symm); have GL1 := Aside0.mk (blk_lt hbox); have HB := Aside0.mk hb; clear hbox hb hg; have hcg10 : w1.cell? ⟨g1, 0, none⟩ = some (.int .i64 0) := (blk_cell BK1.out 0).trans rfl; have hfg10 := blk_frozen BK1.out 0; have hcg11 : w1.cell? ⟨g1, 1, none⟩ = some (.slice none 0 0) := (blk_cell BK1.out 1).trans rfl; have hfg11 := blk_frozen BK1.out 1; have hcg12 : w1.cell? ⟨g1, 2, none⟩ = some (.slice none 0 0) := (blk_cell BK1.out 2).trans rfl; have hfg12 := blk_frozen BK1.out 2; have hcg13 : w1.cell? ⟨g1, 3, none⟩ = some (.slice none 0 0) := (blk_cell BK1.out 3).trans rfl; have hfg13 := blk_frozen BK1.out 3)
    refine bodyPost_ret (results_ct rfl _ _ g1 50 #[.int .i64 0, .slice none 0 0, .slice none 0 0, .slice none 0 0] (0, 0) _ rfl (by (with_reducible repeat (first | refine blk_drewN ?_ _ | refine blk_drew ?_ | refine blk_alloc ?_ _)); refine blk_put (cs := #[.int .i64 0, .slice none 0 0, .slice none 0 0, .slice none 0 0]) ?_ 3 _ rfl; (with_reducible repeat (first | refine blk_drewN ?_ _ | refine blk_drew ?_ | refine blk_alloc ?_ _)); refine blk_put (cs := #[.int .i64 0, .slice none 0 0, .slice none 0 0, .slice none 0 0]) ?_ 2 _ rfl; (with_reducible repeat (first | refine blk_drewN ?_ _ | refine blk_drew ?_ | refine blk_alloc ?_ _)); refine blk_put (cs := #[.int .i64 0, .slice none 0 0, .slice none 0 0, .slice none 0 0]) ?_ 1 _ rfl; (with_reducible repeat (first | refine blk_drewN ?_ _ | refine blk_drew ?_ | refine blk_alloc ?_ _)); refine blk_put (cs := #[.int .i64 0, .slice none 0 0, .slice none 0 0, .slice none 0 0]) ?_ 0 _ rfl; (with_reducible repeat (first | refine blk_drewN ?_ _ | refine blk_drew ?_ | refine blk_alloc ?_ _)); exact BK1.out) Try.underlying50 rfl (by kernel_rfl)) rfl ?_
    rw [build_bad (fits_b (by omega))]
    exact ⟨_, rfl, bad_M _ _, below_set (below_set (below_set (below_set (HB.out) GE1.out) GE1.out) GE1.out) GE1.out⟩
  by_cases c3 : (ls.length : Int) < 1
  · go_enter Try.func40, Try.ntmps40
    go_wp2_with ((with_reducible refine gate_dst (N := 4) rfl ?_); refine box_event ?hg (N := 4) ?hd (cs := #[.int .i64 0, .slice none 0 0, .slice none 0 0, .slice none 0 0]) (t := 50) ?hr ?_; (case hd => rfl); (case hg => rfl); (case hr => first | (go_simp; done) | (go_simp; rfl)); intro g1 hg w1 hbox hb; have BK1 := Aside0.mk hbox; have GE1 := Aside0.mk (show w.heap.size ≤ g1 from Nat.le_of_eq hg.symm); have GL1 := Aside0.mk (blk_lt hbox); have HB := Aside0.mk hb; clear hbox hb hg; have hcg10 : w1.cell? ⟨g1, 0, none⟩ = some (.int .i64 0) := (blk_cell BK1.out 0).trans rfl; have hfg10 := blk_frozen BK1.out 0; have hcg11 : w1.cell? ⟨g1, 1, none⟩ = some (.slice none 0 0) := (blk_cell BK1.out 1).trans rfl; have hfg11 := blk_frozen BK1.out 1; have hcg12 : w1.cell? ⟨g1, 2, none⟩ = some (.slice none 0 0) := (blk_cell BK1.out 2).trans rfl; have hfg12 := blk_frozen BK1.out 2; have hcg13 : w1.cell? ⟨g1, 3, none⟩ = some (.slice none 0 0) := (blk_cell BK1.out 3).trans rfl; have hfg13 := blk_frozen BK1.out 3)
    refine bodyPost_ret (results_ct rfl _ _ g1 50 #[.int .i64 0, .slice none 0 0, .slice none 0 0, .slice none 0 0] (0, 0) _ rfl (by (with_reducible repeat (first | refine blk_drewN ?_ _ | refine blk_drew ?_ | refine blk_alloc ?_ _)); refine blk_put (cs := #[.int .i64 0, .slice none 0 0, .slice none 0 0, .slice none 0 0]) ?_ 3 _ rfl; (with_reducible repeat (first | refine blk_drewN ?_ _ | refine blk_drew ?_ | refine blk_alloc ?_ _)); refine blk_put (cs := #[.int .i64 0, .slice none 0 0, .slice none 0 0, .slice none 0 0]) ?_ 2 _ rfl; (with_reducible repeat (first | refine blk_drewN ?_ _ | refine blk_drew ?_ | refine blk_alloc ?_ _)); refine blk_put (cs := #[.int .i64 0, .slice none 0 0, .slice none 0 0, .slice none 0 0]) ?_ 1 _ rfl; (with_reducible repeat (first | refine blk_drewN ?_ _ | refine blk_drew ?_ | refine blk_alloc ?_ _)); refine blk_put (cs := #[.int .i64 0, .slice none 0 0, .slice none 0 0, .slice none 0 0]) ?_ 0 _ rfl; (with_reducible repeat (first | refine blk_drewN ?_ _ | refine blk_drew ?_ | refine blk_alloc ?_ _)); exact BK1.out) Try.underlying50 rfl (by kernel_rfl)) rfl ?_
    rw [build_bad (fits_b (by omega))]
    exact ⟨_, rfl, bad_M _ _, below_set (below_set (below_set (below_set (HB.out) GE1.out) GE1.out) GE1.out) GE1.out⟩
  by_cases c4 : b + (ls.length : Int) > 1000
  · go_enter Try.func40, Try.ntmps40
    go_wp2_with ((with_reducible refine gate_dst (N := 4) rfl ?_); refine box_event ?hg (N := 4) ?hd (cs := #[.int .i64 0, .slice none 0 0, .slice none 0 0, .slice none 0 0]) (t := 50) ?hr ?_; (case hd => rfl); (case hg => rfl); (case hr => first | (go_simp; done) | (go_simp; rfl)); intro g1 hg w1 hbox hb; have BK1 := Aside0.mk hbox; have GE1 := Aside0.mk (show w.heap.size ≤ g1 from Nat.le_of_eq hg.symm); have GL1 := Aside0.mk (blk_lt hbox); have HB := Aside0.mk hb; clear hbox hb hg; have hcg10 : w1.cell? ⟨g1, 0, none⟩ = some (.int .i64 0) := (blk_cell BK1.out 0).trans rfl; have hfg10 := blk_frozen BK1.out 0; have hcg11 : w1.cell? ⟨g1, 1, none⟩ = some (.slice none 0 0) := (blk_cell BK1.out 1).trans rfl; have hfg11 := blk_frozen BK1.out 1; have hcg12 : w1.cell? ⟨g1, 2, none⟩ = some (.slice none 0 0) := (blk_cell BK1.out 2).trans rfl; have hfg12 := blk_frozen BK1.out 2; have hcg13 : w1.cell? ⟨g1, 3, none⟩ = some (.slice none 0 0) := (blk_cell BK1.out 3).trans rfl; have hfg13 := blk_frozen BK1.out 3)
    refine bodyPost_ret (results_ct rfl _ _ g1 50 #[.int .i64 0, .slice none 0 0, .slice none 0 0, .slice none 0 0] (0, 0) _ rfl (by (with_reducible repeat (first | refine blk_drewN ?_ _ | refine blk_drew ?_ | refine blk_alloc ?_ _)); refine blk_put (cs := #[.int .i64 0, .slice none 0 0, .slice none 0 0, .slice none 0 0]) ?_ 3 _ rfl; (with_reducible repeat (first | refine blk_drewN ?_ _ | refine blk_drew ?_ | refine blk_alloc ?_ _)); refine blk_put (cs := #[.int .i64 0, .slice none 0 0, .slice none 0 0, .slice none 0 0]) ?_ 2 _ rfl; (with_reducible repeat (first | refine blk_drewN ?_ _ | refine blk_drew ?_ | refine blk_alloc ?_ _)); refine blk_put (cs := #[.int .i64 0, .slice none 0 0, .slice none 0 0, .slice none 0 0]) ?_ 1 _ rfl; (with_reducible repeat (first | refine blk_drewN ?_ _ | refine blk_drew ?_ | refine blk_alloc ?_ _)); refine blk_put (cs := #[.int .i64 0, .slice none 0 0, .slice none 0 0, .slice none 0 0]) ?_ 0 _ rfl; (with_reducible repeat (first | refine blk_drewN ?_ _ | refine blk_drew ?_ | refine blk_alloc ?_ _)); exact BK1.out) Try.underlying50 rfl (by kernel_rfl)) rfl ?_
    rw [build_bad (fits_b (by omega))]
    exact ⟨_, rfl, bad_M _ _, below_set (below_set (below_set (below_set (HB.out) GE1.out) GE1.out) GE1.out) GE1.out⟩
  go_enter Try.func40, Try.ntmps40
  go_wp2_with ((with_reducible refine gate_dst (N := 4) rfl ?_); refine box_event ?hg (N := 4) ?hd (cs := #[.int .i64 0, .slice none 0 0, .slice none 0 0, .slice none 0 0]) (t := 50) ?hr ?_; (case hd => rfl); (case hg => rfl); (case hr => first | (go_simp; done) | (go_simp; rfl)); intro g1 hg w1 hbox hb; have BK1 := Aside0.mk hbox; have GE1 := Aside0.mk (show w.heap.size ≤ g1 from Nat.le_of_eq hg.symm); have GL1 := Aside0.mk (blk_lt hbox); have HB := Aside0.mk hb; clear hbox hb hg; have hcg10 : w1.cell? ⟨g1, 0, none⟩ = some (.int .i64 0) := (blk_cell BK1.out 0).trans rfl; have hfg10 := blk_frozen BK1.out 0; have hcg11 : w1.cell? ⟨g1, 1, none⟩ = some (.slice none 0 0) := (blk_cell BK1.out 1).trans rfl; have hfg11 := blk_frozen BK1.out 1; have hcg12 : w1.cell? ⟨g1, 2, none⟩ = some (.slice none 0 0) := (blk_cell BK1.out 2).trans rfl; have hfg12 := blk_frozen BK1.out 2; have hcg13 : w1.cell? ⟨g1, 3, none⟩ = some (.slice none 0 0) := (blk_cell BK1.out 3).trans rfl; have hfg13 := blk_frozen BK1.out 3)
  go_loopg [37] ls.length (fun gg s37 wr => ∃ i : Nat, i ≤ ls.length ∧ ls.length - i ≤ gg ∧ s37 = .int .i64 i ∧ w1 = wr ∧ Aside0 (plain (ls.take i) = true))
  case atStart => exact ⟨0, by omega, by omega, rfl, rfl, ⟨rfl⟩⟩
  case round =>
    obtain ⟨i, hi, hg, rfl, rfl, HP⟩ := hrel
    by_cases hlt : i < ls.length
    · have hltz : (i : Int) < (ls.length : Int) := by omega
      obtain ⟨ad, u, rfl, hcell0, hK⟩ := get_one (d := kB) rfl HR.out [] i hlt
      obtain ⟨A', c', e', hc', hr'⟩ := hK
      obtain rfl : u = .slice A' (ls.getD i []).length c' := by injection e'
      have hcell : w1.cell? (ad.add i) = some (.slice A' (ls.getD i []).length c') := (HB.out.cell (World.block_lt_of_cell? w _ hcell0)).trans hcell0
      have HL := Aside0.mk (Kd.C_below hr' HB.out)
      have HLB := Aside0.mk (getD_bytes HY.out i)
      have hbad : 10 ∈ ls.getD i [] → plain ls = false := plain_at hlt
      have hpl : 10 ∉ ls.getD i [] → plain (ls.take (i + 1)) = true := fun h => by
        rw [take_snoc ls i hlt]
        have := HP.out
        unfold plain at this ⊢
        rw [List.all_append, this]
        simp only [List.all_cons, List.all_nil, Bool.and_true, Bool.true_and]
        exact decide_eq_true h
      have HBD := Aside0.mk hbad
      have HPL := Aside0.mk hpl
      clear hr' e' hcell0 hbad hpl
      generalize hx : ls.getD i [] = l at hcell HL HLB HBD HPL hc'
      clear hx
      have hone := one_calls A' c' l w1 HL.out hc' HLB.out
      by_cases h10 : 10 ∈ l
      · rw [decide_eq_false (fun h => h h10)] at hone
        go_wp2_with (go_at_call 93; refine hone.mono ?_; rintro e w' ⟨rfl, hw_⟩; subst w')
        refine bodyPost_ret (results_ct rfl _ _ g1 50 #[.int .i64 0, .slice none 0 0, .slice none 0 0, .slice none 0 0] (0, 0) _ rfl (by (with_reducible repeat (first | refine blk_drewN ?_ _ | refine blk_drew ?_ | refine blk_alloc ?_ _)); refine blk_put (cs := #[.int .i64 0, .slice none 0 0, .slice none 0 0, .slice none 0 0]) ?_ 3 _ rfl; (with_reducible repeat (first | refine blk_drewN ?_ _ | refine blk_drew ?_ | refine blk_alloc ?_ _)); refine blk_put (cs := #[.int .i64 0, .slice none 0 0, .slice none 0 0, .slice none 0 0]) ?_ 2 _ rfl; (with_reducible repeat (first | refine blk_drewN ?_ _ | refine blk_drew ?_ | refine blk_alloc ?_ _)); refine blk_put (cs := #[.int .i64 0, .slice none 0 0, .slice none 0 0, .slice none 0 0]) ?_ 1 _ rfl; (with_reducible repeat (first | refine blk_drewN ?_ _ | refine blk_drew ?_ | refine blk_alloc ?_ _)); refine blk_put (cs := #[.int .i64 0, .slice none 0 0, .slice none 0 0, .slice none 0 0]) ?_ 0 _ rfl; (with_reducible repeat (first | refine blk_drewN ?_ _ | refine blk_drew ?_ | refine blk_alloc ?_ _)); exact BK1.out) Try.underlying50 rfl (by kernel_rfl)) rfl ?_
        rw [build_bad (fits_b (by rw [HBD.out h10]; simp))]
        exact ⟨_, rfl, bad_M _ _, below_set (below_set (below_set (below_set (HB.out) GE1.out) GE1.out) GE1.out) GE1.out⟩
      · rw [decide_eq_true h10] at hone
        go_wp2_with (go_at_call 93; refine hone.mono ?_; rintro e w' ⟨rfl, hw_⟩; subst w')
        go_roundg (ls.length - (i + 1))
        case measure => omega
        case rel => exact ⟨i + 1, by omega, by omega, by go_num, rfl, ⟨HPL.out h10⟩⟩
    · have hltz : ¬ (i : Int) < (ls.length : Int) := by omega
      obtain rfl : i = ls.length := by omega
      have hp := HP.out
      rw [List.take_length] at hp
      have HPP := Aside0.mk hp
      clear hp HP
      have htot := total_calls A c ls w1 (Kd.C_below HR.out HB.out) HC.out hs
      by_cases c5 : (totalB ls : Int) > 20000
      · go_wp2_with (go_at_call 94; refine htot.mono ?_; rintro e w' ⟨rfl, hw_⟩; subst w')
        refine bodyPost_ret (results_ct rfl _ _ g1 50 #[.int .i64 0, .slice none 0 0, .slice none 0 0, .slice none 0 0] (0, 0) _ rfl (by (with_reducible repeat (first | refine blk_drewN ?_ _ | refine blk_drew ?_ | refine blk_alloc ?_ _)); refine blk_put (cs := #[.int .i64 0, .slice none 0 0, .slice none 0 0, .slice none 0 0]) ?_ 3 _ rfl; (with_reducible repeat (first | refine blk_drewN ?_ _ | refine blk_drew ?_ | refine blk_alloc ?_ _)); refine blk_put (cs := #[.int .i64 0, .slice none 0 0, .slice none 0 0, .slice none 0 0]) ?_ 2 _ rfl; (with_reducible repeat (first | refine blk_drewN ?_ _ | refine blk_drew ?_ | refine blk_alloc ?_ _)); refine blk_put (cs := #[.int .i64 0, .slice none 0 0, .slice none 0 0, .slice none 0 0]) ?_ 1 _ rfl; (with_reducible repeat (first | refine blk_drewN ?_ _ | refine blk_drew ?_ | refine blk_alloc ?_ _)); refine blk_put (cs := #[.int .i64 0, .slice none 0 0, .slice none 0 0, .slice none 0 0]) ?_ 0 _ rfl; (with_reducible repeat (first | refine blk_drewN ?_ _ | refine blk_drew ?_ | refine blk_alloc ?_ _)); exact BK1.out) Try.underlying50 rfl (by kernel_rfl)) rfl ?_
        rw [build_bad (fits_b (by omega))]
        exact ⟨_, rfl, bad_M _ _, below_set (below_set (below_set (below_set (HB.out) GE1.out) GE1.out) GE1.out) GE1.out⟩
      have HG := Aside0.mk (show 0 ≤ b ∧ b ≤ 1000 ∧ 1 ≤ ls.length ∧ b + (ls.length : Int) ≤ 1000 ∧ plain ls = true ∧ totalB ls ≤ 20000 from ⟨by omega, by omega, by omega, by omega, HPP.out, by omega⟩)
      have hmm := @run_makeMap Try.prog
      have hW := World.ownsGroups_made (H := Unit) w1 Try.prog 3 3 .i64
      go_wp2_with (go_at_call 94; refine htot.mono ?_; rintro e w' ⟨rfl, hw_⟩; subst w')
      obtain ⟨i0, hi0, hz0, hz1, hz2⟩ := info_parts infoI
      have hb0 := HG.out.1
      have hb1 := HG.out.2.1
      have hb2 := HG.out.2.2.2.1
      have htl := HG.out.2.2.2.2.2
      go_loopg [53] ls.length (fun gg s53 wr => ∃ i : Nat, i ≤ ls.length ∧ ls.length - i ≤ gg ∧ s53 = .int .i64 i ∧ Aside0 (∃ D n, wr.ownsGroups Try.prog 3 (w1.heap.size + 1) 3 .i64 w1.heap.size n D ∧ Grp (post b ls i) D ∧ n ≤ totalB (ls.take i)) ∧ Aside0 (Below w1.heap.size w1 wr))
      case atStart => exact ⟨0, by omega, by omega, rfl, ⟨⟨_, 0, hW, Grp.start.congr (fun k => (post_nil b ls k).symm), Nat.zero_le _⟩⟩, ⟨below_alloc (Below.refl _ _) _⟩⟩
      case round =>
        rename World => wo
        obtain ⟨i, hi, hg, rfl, HD, HB1⟩ := hrel
        obtain ⟨D, n, hown, hD, hn⟩ := HD.out
        have HO := Aside0.mk hown
        have HF := Aside0.mk hD
        have HN := Aside0.mk hn
        clear HD hown hD hn
        by_cases hlt : i < ls.length
        · have hltz : (i : Int) < (ls.length : Int) := by omega
          have HBW := Aside0.mk (below_then HB.out HB.out.size HB1.out)
          obtain ⟨ad, u, rfl, hcell0, hK⟩ := get_one (d := kB) rfl HR.out [] i hlt
          obtain ⟨A', c', e', hc', hr'⟩ := hK
          obtain rfl : u = .slice A' (ls.getD i []).length c' := by injection e'
          have hcell : wo.cell? (ad.add i) = some (.slice A' (ls.getD i []).length c') := (HBW.out.cell (World.block_lt_of_cell? w _ hcell0)).trans hcell0
          have HL := Aside0.mk (Kd.C_below hr' HBW.out)
          have HLB := Aside0.mk (getD_bytes HY.out i)
          have HLN := Aside0.mk (getD_len ls i)
          have HTD := Aside0.mk (total_drop ls i hlt)
          have HTT := Aside0.mk (total_take ls (i + 1))
          clear hr' e' hcell0
          generalize hx : ls.getD i [] = l at hcell HL HLB HLN HTD hc'
          have HX := Aside0.mk hx
          clear hx
          have htri := Tri.tri_calls A' c' l wo HL.out hc' HLB.out (by have := HLN.out; omega)
          have hTl : (ord (tris l)).length ≤ l.length := by have h1 := ord_len (tris l); have h2 := tris_length l; omega
          have HTA := Aside0.mk (asc_ord (tris l))
          have HTB := Aside0.mk (show ∀ x ∈ ord (tris l), 0 ≤ x ∧ x ≤ 16777215 from fun x hx => tris_bd l HLB.out x ((mem_ord _ _).1 hx))
          generalize hT : ord (tris l) = T at htri hTl HTA HTB
          have HT := Aside0.mk hT
          clear hT
          go_wp2_with (go_at_call 21; refine htri.mono ?_; rintro e w2 ⟨vt, rfl, hRt, hgt⟩; obtain ⟨At, ct, rfl⟩ := Kd.R_slice hRt)
          have HW2 := Aside0.mk hgt
          have hsz1 : w1.heap.size < wo.heap.size := groups_lt HO.out
          have hsh0 : wo.Shuns w1.heap.size (fun g => some g = (Value.slice At T.length ct).ownBlock) := World.Shuns.reno (No := fun _ => False) (fun _ _ _ _ _ _ _ h => h) HO.out (fun g hg => .inr (Kd.R_base hRt g hg.symm))
          have hsh1 : w2.Shuns w1.heap.size (fun g => some g = (Value.slice At T.length ct).ownBlock) := hsh0.kept (row := none) ⟨hgt.os, hgt.tape, hgt.output, hgt.size, fun k hk _ => hgt.block k hk⟩ hsz1 (by simp)
          go_loopg [61] T.length (fun gg s61 wi => ∃ j : Nat, j ≤ T.length ∧ T.length - j ≤ gg ∧ s61 = .int .i64 j ∧ Aside0 (∃ D n, wi.ownsGroups Try.prog 3 (w1.heap.size + 1) 3 .i64 w1.heap.size n D ∧ Grp (upTo b ls i j) D ∧ n ≤ totalB (ls.take i) + j ∧ wi.Shuns w1.heap.size (fun g => some g = (Value.slice At T.length ct).ownBlock)) ∧ Aside0 (wi.ownsRow wo.heap.size 3 1 (.slice At T.length ct) T.length (T.map (Value.int .i64))) ∧ Aside0 (Below w1.heap.size w1 wi))
          case atStart => exact ⟨0, by omega, by omega, rfl, ⟨⟨D, n, groups_below HO.out hgt, HF.out.congr (fun k => upTo_zero b ls i k), by have := HN.out; omega, hsh1⟩⟩, ⟨Kd.own_of_R hRt⟩, ⟨below_then HB1.out HB1.out.size hgt⟩⟩
          case round =>
            rename World => wi
            clear hsh0 hsh1 hRt hgt
            obtain ⟨j, hj, hgj, rfl, HD2, HRW, HB2⟩ := hrel
            obtain ⟨D2, n2, hown, hD, hn, hsh⟩ := HD2.out
            have HO2 := Aside0.mk hown
            have HF2 := Aside0.mk hD
            have HN2 := Aside0.mk hn
            have HS2 := Aside0.mk hsh
            clear HD2 hown hD hn hsh
            have hsz2 : w1.heap.size < wi.heap.size := groups_lt HO2.out
            by_cases hlj : j < T.length
            · have hljz : (j : Int) < (T.length : Int) := by omega
              have hrow := HRW.out
              rcases hrow.2 with ⟨_, h0⟩ | ⟨gt, cap, cur, hv, hgt1, hgt2, _⟩
              · omega
              obtain ⟨rfl, rfl⟩ : At = some ⟨gt, 0, none⟩ ∧ ct = cap := by injection hv with h1 h2 h3; exact ⟨h1, h3⟩
              have hglt : gt < wi.heap.size := (Array.getElem?_eq_some_iff.1 hgt2).1
              have hcj : wi.cell? ⟨gt, j, none⟩ = some (.int .i64 T[j]) := by have h1 := hrow.cells (g := gt) rfl j (.int .i64 T[j]) (by simp [List.getElem?_eq_getElem hlj]); rwa [show (⟨gt, 0, none⟩ : Addr).add j = ⟨gt, j, none⟩ from by unfold Addr.add; split <;> simp_all] at h1
              have htb := HTB.out T[j] (List.getElem_mem hlj)
              obtain ⟨s1, s2⟩ := upTo_same b ls i j (by rw [HX.out, HT.out]; exact hlj)
              have s3 := upTo_other b ls i j (by rw [HX.out, HT.out]; exact hlj)
              simp only [HX.out, HT.out] at s1 s2 s3
              generalize ht : T[j] = t at hcj htb s1 s2 s3
              have SS := Aside0.mk (And.intro s1 (And.intro s2 s3))
              clear s1 s2 s3 hv hrow
              have hTz : T.length ≤ 1048576 := by have := HLN.out; omega
              have hnm : n2 < maxLen := by have h1 := HN2.out; have h2 := HTT.out; have h3 := HTD.out; unfold maxLen; omega
              have hn40 : n2 ≤ 40000 := by have h1 := HN2.out; have h2 := HTT.out; have h3 := HTD.out; omega
              go_wp2_with (first | (at_lookup; refine wpList_lookup_groups_shuns _ rfl _ _ 104 rfl 3 22 3 .i64 keyedI Try.underlying104 (zeroR _) (w1.heap.size + 1) w1.heap.size n2 D2 rfl HO2.out hnm (.int .i64 t) (.int .i64 t) rfl (keyI t (by omega)) ?_; intro u zs hat hoi hzl hback hsh) | (at_builtin; refine wpList_append_own_at _ rfl _ _ 22 rfl (w1.heap.size + 1) 3 i0 (.int .i64 0) 1 8 Try.underlying22 hi0 hz0 hz1 hz2 rfl (by decide) u zs.length (zs.map (Value.int .i64)) rfl (hoi.1.alloc _) ⟨wi.heap.size, 0, none⟩ 1 1 [.int .i64 (b + (i : Int))] rfl rfl (cell_one_new _ _ _) (by simp [Value.oneCell']) (by unfold maxLen; omega) (by omega) (by simp; omega) ?_; intro v' w3 hown' hgrow hnil' hat') | (at_mapUpdate; have hgr' := (World.grownBy_alloc wi (.cells #[.int .i64 (b + (i : Int))] 3) u.ownBlock).trans hgrow; have hoi' := (hoi.alloc (.cells #[.int .i64 (b + (i : Int))] 3)).appended hown' (WalkArith.wf_i64 (by omega)); have hlen' : (zs ++ [b + (i : Int)]).length ≤ n2 + 1 := (by rw [List.length_append, List.length_singleton]; omega); have hno' : ∀ g, v'.ownBlock = some g → ¬ some g = (Value.slice (some ⟨gt, 0, none⟩) T.length ct).ownBlock := (fun g hg hN => by rcases hat' with h | h; (exact hsh _ HS2.out g (h ▸ hg) hN); (rw [h] at hg; have e1 : g = gt := (by simpa [Value.ownBlock] using hN); simp at hg; omega)); have hloc' : v'.ownBlock = u.ownBlock ∨ ∃ g, v'.ownBlock = some g ∧ wi.heap.size ≤ g := hat'.imp id (fun h => ⟨_, h, by simp⟩); refine wpList_mapUpdate_back_shuns _ rfl _ _ _ 104 rfl keyedI Try.underlying104 (keyI t (by omega)) HO2.out hnm hoi HS2.out hno' hback rfl rfl rfl hgr' hoi' hlen' hloc' ?_; intro w4 hown4 hgrow4 hsh4))
              have hz : zs = upTo b ls i j t := dat_inj hoi ((HF2.out.at_ t).symm.trans hat)
              have hgt0 : ∀ g, u.ownBlock = some g → g ≠ gt := fun g hg e => hsh _ HS2.out g hg (by rw [e]; rfl)
              go_roundg (T.length - (j + 1))
              case measure => omega
              case rel =>
                refine ⟨j + 1, by omega, by omega, by go_num, ⟨⟨_, n2 + 1, hown4, HF2.out.put (g := upTo b ls i (j + 1)) ?_ ?_ ?_, by have := HN2.out; omega, hsh4⟩⟩, ⟨?_⟩, ⟨?_⟩⟩
                · rw [hoi'.datum_pos (by simp), SS.out.2.1, hz, SS.out.1, dat_cons (by simp)]
                · rw [SS.out.2.1]; simp
                · exact fun k hk => SS.out.2.2 k hk
                · exact (HRW.out.kept hgr' (.inr (fun e => hgt0 gt (by rw [← e]; rfl) rfl))).kept hgrow4 (.inr (fun e => by simp [Value.ownBlock] at e; omega))
                · exact RowKit.Below.groups HB2.out hoi hgr' hgrow4 (by omega) (by omega) (Nat.le_refl _)
            · have hljz : ¬ (j : Int) < (T.length : Int) := by omega
              obtain rfl : j = T.length := by omega
              go_wp2
              go_roundg (ls.length - (i + 1))
              case measure => omega
              case rel =>
                refine ⟨i + 1, by omega, by omega, by go_num, ⟨⟨D2, n2, HO2.out, HF2.out.congr (fun k => ?_), by have h1 := HN2.out; have h2 := HTD.out; omega⟩⟩, ⟨HB2.out⟩⟩
                have h1 := upTo_full b ls i k
                rw [HX.out, HT.out] at h1
                exact h1
        · have hltz : ¬ (i : Int) < (ls.length : Int) := by omega
          obtain rfl : i = ls.length := by omega
          have hsz1 : w1.heap.size < wo.heap.size := groups_lt HO.out
          have HBW := Aside0.mk (below_then HB.out HB.out.size HB1.out)
          obtain ⟨Ent, hE1, hE2⟩ := entries HO.out
          have HE1 := Aside0.mk hE1
          have HE2 := Aside0.mk hE2
          clear hE1 hE2
          have hcopy := copy_calls A c ls wo (Kd.C_below HR.out HBW.out) HC.out hs
          have hKl : (keys ls).length ≤ totalB ls := keys_len ls
          have hsort : ∀ wa : World, Below wo.heap.size wo wa → Calls Try.prog 96 #[.func (.func 139) #[] #[.pointer (some ⟨wa.heap.size, 0, none⟩)]] (wa.alloc (.cells #[.map (some w1.heap.size)] 104)) fun e w' => ∃ v, e = .returned v ∧ Kd.R (Kd.int .i64) 3 w' wa.heap.size (fun _ => True) v (keys ls) ∧ Below wa.heap.size wa w' := fun wa hga => sorted_calls wa (ownsMap_below HO.out (hga.block _ hsz1)) HF.out (post_ne b ls) (by have h1 := HN.out; have h2 := total_take ls ls.length; omega)
          have HKA := Aside0.mk (show Asc (keys ls) from asc_ord _)
          have HKB := Aside0.mk (show ∀ x ∈ keys ls, 0 ≤ x ∧ x ≤ 16777215 from fun x hx => by
            obtain ⟨l, hl, hx2⟩ := List.mem_flatMap.1 ((mem_ord _ _).1 hx)
            exact tris_bd l (fun y hy => HY.out l hl y hy) x hx2)
          have HBG := Aside0.mk (build_good HG.out)
          have HSEG := Aside0.mk (show seg b ls = (b, ls, keys ls, (keys ls).map (post b ls ls.length)) from rfl)
          generalize hK_ : keys ls = K at hKl hsort HKA HKB HSEG
          clear hK_
          go_wp2_with (first | (go_at_call 95; refine hcopy.mono ?_; rintro e wa ⟨v1, rfl, hS1, hga⟩; obtain ⟨A1, c1, rfl⟩ := Kd.S_slice hS1) | (go_at_call 97; refine (keys_calls _ _).mono ?_; rintro e w' ⟨rfl, hw_⟩; subst w') | (go_at_call 96; refine (hsort wa hga).mono ?_; rintro e ws ⟨v2, rfl, hR2, hgs⟩; obtain ⟨A2, c2, rfl⟩ := Kd.R_slice hR2) | ((with_reducible refine gate_dst (N := 13) rfl ?_); refine box_event ?hg (N := 13) ?hd (cs := #[.int .i64 0, .slice none 0 0, .slice none 0 0, .slice none 0 0]) (t := 50) ?hr ?_; (case hd => rfl); (case hg => rfl); (case hr => first | (go_simp; done) | (go_simp; rfl)); intro g2 hg2_ w5 hbox hb5; have HGE := Aside0.mk hg2_; clear hg2_; have BK2 := Aside0.mk hbox; have hcg20 : w5.cell? ⟨g2, 0, none⟩ = some (.int .i64 0) := (blk_cell hbox 0).trans rfl; have hfg20 := blk_frozen hbox 0; have hcg21 : w5.cell? ⟨g2, 1, none⟩ = some (.slice none 0 0) := (blk_cell hbox 1).trans rfl; have hfg21 := blk_frozen hbox 1; have hcg22 : w5.cell? ⟨g2, 2, none⟩ = some (.slice none 0 0) := (blk_cell hbox 2).trans rfl; have hfg22 := blk_frozen hbox 2; have hcg23 : w5.cell? ⟨g2, 3, none⟩ = some (.slice none 0 0) := (blk_cell hbox 3).trans rfl; have hfg23 := blk_frozen hbox 3))
          have hg2a : ws.heap.size ≤ g2 := Nat.le_of_eq HGE.out.symm
          have hg2b : g2 ≤ ws.heap.size := Nat.le_of_eq HGE.out
          have hl5 : ws.heap.size < w5.heap.size := by have h1 := blk_lt BK2.out; omega
          have hlW : w.heap.size ≤ w1.heap.size := HB.out.size
          have hg1 := GL1.out
          have hge1 := GE1.out
          have hlA : wo.heap.size ≤ wa.heap.size := hga.size
          have hlS : wa.heap.size ≤ ws.heap.size := hgs.size
          have HG5 := Aside0.mk (show ∀ k, k < wo.heap.size → w5.heap[k]? = wo.heap[k]? from fun k hk => (hb5.block k (by omega)).trans ((hgs.block k (by omega)).trans (hga.block k hk)))
          have HM1 := Aside0.mk (Kd.S_step (w1 := w5) (Kd.S_bound hS1) (fun k hk _ => (hb5.block k (by have := hk.2.2.1; omega)).trans (hgs.block k hk.2.2.1)))
          have HM2 := Aside0.mk (Kd.R_step (w1 := w5) (Kd.R_bound hR2) (fun k hk _ => hb5.block k hk.2.2.1))
          have HB5 := Aside0.mk (grew_trans (grew_trans (grew_trans HBW.out hga) hgs) hb5)
          have HK1 := Aside0.mk ((HG5.out g1 (by omega)).trans (blk_below BK1.out HB1.out))
          clear hcopy hsort hS1 hR2 hga hgs hb5
          go_loopg [87] K.length (fun gg s87 wr => ∃ (q : Nat) (Ap : Option Addr) (cp : Nat), q ≤ K.length ∧ K.length - q ≤ gg ∧ s87 = .int .i64 q ∧ Aside0 (wr.heap[g2]? = some (.cells #[.int .i64 b, .slice A1 ls.length c1, .slice A2 K.length c2, .slice Ap q cp] 50 (0, 0))) ∧ Aside0 (Kd.S HelpII.kI 22 wr w.heap.size (okP Ent K w1.heap.size wo.heap.size w5.heap.size q) (.slice Ap q cp) ((K.take q).map (post b ls ls.length))) ∧ Aside0 (∀ k, (Value.slice Ap q cp).ownBlock = some k → w5.heap.size ≤ k) ∧ Aside0 (Kept w5 wr (fun k => k = g2)) ∧ Aside0 (Below w.heap.size w wr))
          case atStart =>
            refine ⟨0, none, 0, Nat.zero_le _, Nat.le_refl _, rfl, ⟨?_⟩, ⟨Kd.S_nil _ _ _ _ _⟩, ⟨fun k hk => by simp [Value.ownBlock] at hk⟩, ⟨?_⟩, ⟨?_⟩⟩
            · (with_reducible repeat (first | refine blk_drewN ?_ _ | refine blk_drew ?_ | refine blk_alloc ?_ _)); refine blk_put (cs := #[.int .i64 b, .slice A1 ls.length c1, .slice A2 K.length c2, .slice none 0 0]) ?_ 3 _ rfl; (with_reducible repeat (first | refine blk_drewN ?_ _ | refine blk_drew ?_ | refine blk_alloc ?_ _)); refine blk_put (cs := #[.int .i64 b, .slice A1 ls.length c1, .slice none 0 0, .slice none 0 0]) ?_ 2 _ rfl; (with_reducible repeat (first | refine blk_drewN ?_ _ | refine blk_drew ?_ | refine blk_alloc ?_ _)); refine blk_put (cs := #[.int .i64 b, .slice none 0 0, .slice none 0 0, .slice none 0 0]) ?_ 1 _ rfl; (with_reducible repeat (first | refine blk_drewN ?_ _ | refine blk_drew ?_ | refine blk_alloc ?_ _)); refine blk_put (cs := #[.int .i64 0, .slice none 0 0, .slice none 0 0, .slice none 0 0]) ?_ 0 _ rfl; (with_reducible repeat (first | refine blk_drewN ?_ _ | refine blk_drew ?_ | refine blk_alloc ?_ _)); exact BK2.out
            · refine Kept.setCell (S := fun k => k = g2) ?_ (.inl rfl) _
              refine Kept.setCell (S := fun k => k = g2) ?_ (.inl rfl) _
              refine Kept.setCell (S := fun k => k = g2) ?_ (.inl rfl) _
              refine Kept.setCell (S := fun k => k = g2) ?_ (.inl rfl) _
              exact Kept.refl w5 _
            · have hg5 : w.heap.size ≤ g2 := by omega
              refine below_set ?_ hg5
              refine below_set ?_ hg5
              refine below_set ?_ hg5
              refine below_set ?_ hg5
              exact HB5.out
          case round =>
            rename World => wl
            have hg2a : ws.heap.size ≤ g2 := Nat.le_of_eq HGE.out.symm
            have hg2b : g2 ≤ ws.heap.size := Nat.le_of_eq HGE.out
            obtain ⟨q, Ap, cp, hq, hgq, rfl, HG2, HS, HOB, HKP, HBL⟩ := hrel
            have hl5' := HKP.out.1
            by_cases hlq : q < K.length
            · have hlqz : (q : Int) < (K.length : Int) := by omega
              have hrow5 := Kd.own_of_R HM2.out
              have hrow : wl.ownsRow wa.heap.size 3 1 (.slice A2 K.length c2) K.length (K.map (Value.int .i64)) := own_move hrow5 (fun k hk => HKP.out.2 k ((hrow5.lt k hk).2) (by have h1 := Kd.R_bound HM2.out; have h2 := h1.1 k hk; have h3 := h2.1.2.2.1; omega))
              clear hrow5
              rcases hrow.2 with ⟨_, h0⟩ | ⟨gk, cap, cur, hv, hgk1, hgk2, _⟩
              · omega
              obtain ⟨rfl, rfl⟩ : A2 = some ⟨gk, 0, none⟩ ∧ c2 = cap := by injection hv with h1 h2 h3; exact ⟨h1, h3⟩
              have hcq : wl.cell? ⟨gk, q, none⟩ = some (.int .i64 K[q]) := by have h1 := hrow.cells (g := gk) rfl q (.int .i64 K[q]) (by simp [List.getElem?_eq_getElem hlq]); rwa [show (⟨gk, 0, none⟩ : Addr).add q = ⟨gk, q, none⟩ from by unfold Addr.add; split <;> simp_all] at h1
              clear hrow hv hgk2
              have hkb := HKB.out K[q] (List.getElem_mem hlq)
              obtain ⟨u, zs, hrun, hat, hoi, hent⟩ := HE1.out wl K[q] ((HKP.out.2 _ (by omega) (by omega)).trans (HG5.out _ hsz1)) (by omega)
              have hz : zs = post b ls ls.length K[q] := dat_inj hoi ((HF.out.at_ K[q]).symm.trans hat)
              have hlt : ∀ k, u.ownBlock = some k → w1.heap.size + 1 ≤ k ∧ k < wo.heap.size := fun k hk => hoi.1.lt k hk
              have hru : Kd.R (Kd.int .i64) 3 wl w.heap.size (fun k => some k = u.ownBlock) u zs := Kd.R_lower (Kd.R_of_own (own_move hoi.1 (fun k hk => (HKP.out.2 k (by have := hlt k hk; omega) (by have := hlt k hk; omega)).trans (HG5.out k (hlt k hk).2))) (fun k hk => hk.symm)) (by omega)
              have htk : (K.take (q + 1)).map (post b ls ls.length) = (K.take q).map (post b ls ls.length) ++ [zs] := by rw [List.take_succ_eq_append_getElem hlq, List.map_append, hz]; rfl
              have hEK : Ent (.int .i64 (K.getD q 0)) u := by have e1 : K.getD q 0 = K[q] := (by simp [List.getD, List.getElem?_eq_getElem hlq]); rw [e1]; exact hent
              have hokp : ∀ k, some k = u.ownBlock → okP Ent K w1.heap.size wo.heap.size w5.heap.size (q + 1) k ∧ some k ≠ (Value.slice Ap q cp).ownBlock := fun k hk => ⟨.inl ⟨by have := hlt k hk.symm; omega, (hlt k hk.symm).2, q, by omega, u, hEK, hk⟩, fun e => by have h1 := HOB.out k e.symm; have h2 := hlt k hk.symm; omega⟩
              have HSQ := Aside0.mk (Kd.S_mono (ok' := fun k => okP Ent K w1.heap.size wo.heap.size w5.heap.size (q + 1) k ∧ ¬ some k = u.ownBlock) HS.out (fun k hk => by
                rcases hk with ⟨h1, h2, j, hj, v, hv, hkv⟩ | h1
                · refine ⟨.inl ⟨h1, h2, j, by omega, v, hv, hkv⟩, fun e => HE2.out _ _ _ _ hv hEK (fun e2 => ?_) k hkv e⟩
                  have e3 : K.getD j 0 = K.getD q 0 := by injection e2
                  have e4 := asc_get HKA.out (show j < q by omega) hlq
                  rw [show K.getD j 0 = K[j]'(by omega) from by simp [List.getD, List.getElem?_eq_getElem (show j < K.length by omega)], show K.getD q 0 = K[q] from by simp [List.getD, List.getElem?_eq_getElem hlq]] at e3
                  omega
                · exact ⟨.inr h1, fun e => by have := hlt k e.symm; omega⟩))
              have HOKP := Aside0.mk hokp
              have HRU := Aside0.mk hru
              have HTK := Aside0.mk htk
              have HLT := Aside0.mk hlt
              have hzl : zs.length ≤ 1048576 := by rw [hz]; have := post_len b ls ls.length K[q]; omega
              clear hoi hat hent hEK hokp hru htk hlt hz
              generalize ht : K[q] = t at hcq hkb hrun
              clear ht
              have hdg20 : wl.cell? ⟨g2, 0, none⟩ = some (.int .i64 b) := (blk_cell HG2.out 0).trans rfl; have heg20 := blk_frozen HG2.out 0; have hdg21 : wl.cell? ⟨g2, 1, none⟩ = some (.slice A1 ls.length c1) := (blk_cell HG2.out 1).trans rfl; have heg21 := blk_frozen HG2.out 1; have hdg22 : wl.cell? ⟨g2, 2, none⟩ = some (.slice (some ⟨gk, 0, none⟩) K.length c2) := (blk_cell HG2.out 2).trans rfl; have heg22 := blk_frozen HG2.out 2; have hdg23 : wl.cell? ⟨g2, 3, none⟩ = some (.slice Ap q cp) := (blk_cell HG2.out 3).trans rfl; have heg23 := blk_frozen HG2.out 3
              obtain ⟨Au, cu, rfl⟩ := Kd.R_slice HRU.out
              go_wp2_with (first | (at_lookup; refine wpList_lookup_run _ rfl _ _ 104 rfl rfl rfl hrun ?_) | (at_builtin; refine Kd.S_append HelpII.kI (w0 := w) w.heap.size rfl (.tmp 92) (.tmp 96) 42 22 (.slice none 0 0) 24 rfl Try.underlying42 infoII rfl (by decide) (by omega) (.slice Ap q cp) ((K.take q).map (post b ls ls.length)) zs [.slice Au zs.length cu] (okP Ent K w1.heap.size wo.heap.size w5.heap.size (q + 1)) (fun k_ => some k_ = (.slice Au zs.length cu : Value).ownBlock) rfl rfl ?aP HOKP.out (fun k hk => .inr (by omega)) HSQ.out HBL.out HBL.out.size ?aL ?_; (case aP => exact Kd.M_row HRU.out); (case aL => (rw [List.length_map, List.length_take]; omega)); intro v6 w6 hO6 hB6 hg6 hat6; obtain ⟨A6, c6, rfl⟩ := Kd.S_slice hO6; rw [show ((K.take q).map (post b ls ls.length) ++ [zs]).length = q + 1 from by simp; omega] at hO6 hat6; have hk6 := blk_grown HG2.out hg6 (fun e => by have h1 := HOB.out g2 e.symm; omega); have hpg20 : w6.cell? ⟨g2, 0, none⟩ = some (.int .i64 b) := (blk_cell hk6 0).trans rfl; have hqg20 := blk_frozen hk6 0; have hpg21 : w6.cell? ⟨g2, 1, none⟩ = some (.slice A1 ls.length c1) := (blk_cell hk6 1).trans rfl; have hqg21 := blk_frozen hk6 1; have hpg22 : w6.cell? ⟨g2, 2, none⟩ = some (.slice (some ⟨gk, 0, none⟩) K.length c2) := (blk_cell hk6 2).trans rfl; have hqg22 := blk_frozen hk6 2; have hpg23 : w6.cell? ⟨g2, 3, none⟩ = some (.slice Ap q cp) := (blk_cell hk6 3).trans rfl; have hqg23 := blk_frozen hk6 3))
              go_roundg (K.length - (q + 1))
              case measure => omega
              case rel =>
                have hg5 : w.heap.size ≤ g2 := by omega
                refine ⟨q + 1, A6, c6, by omega, by omega, by go_num, ⟨?_⟩, ⟨?_⟩, ⟨?_⟩, ⟨?_⟩, ⟨?_⟩⟩
                · (with_reducible repeat (first | refine blk_drewN ?_ _ | refine blk_drew ?_ | refine blk_alloc ?_ _)); refine blk_put (cs := #[.int .i64 b, .slice A1 ls.length c1, .slice (some ⟨gk, 0, none⟩) K.length c2, .slice Ap q cp]) ?_ 3 _ rfl; exact hk6
                · rw [HTK.out]
                  exact Kd.S_step hO6 (fun k hk _ => Below.heap_setCell w6 ⟨g2, 3, none⟩ _ k (fun e => by have e' : k = g2 := e; rcases hk with ⟨h1, h2, _⟩ | h1 <;> omega))
                · intro k hk
                  rcases hat6 with h | ⟨bb, h, hle⟩
                  · exact HOB.out k (h ▸ hk)
                  · rw [h] at hk; have e1 : bb = k := (by injection hk); omega
                · exact Kept.setCell (S := fun k => k = g2) (Kept.of_grown hg6 HKP.out (fun k hk => .inr (HOB.out k hk))) (.inl rfl) _
                · exact below_set hB6 hg5
            · have hlqz : ¬ (q : Int) < (K.length : Int) := by omega
              obtain rfl : q = K.length := by omega
              have hS3 := HS.out
              rw [List.take_length] at hS3
              have HS3 := Aside0.mk hS3
              clear hS3 HS
              have hk1 := (HKP.out.2 g1 (by omega) (by omega)).trans HK1.out
              have HK1L := Aside0.mk hk1
              clear hk1
              have hn12 : g1 ≠ g2 := by omega
              have hn21 : g2 ≠ g1 := by omega
              have hdg20 : wl.cell? ⟨g2, 0, none⟩ = some (.int .i64 b) := (blk_cell HG2.out 0).trans rfl; have heg20 := blk_frozen HG2.out 0; have hdg21 : wl.cell? ⟨g2, 1, none⟩ = some (.slice A1 ls.length c1) := (blk_cell HG2.out 1).trans rfl; have heg21 := blk_frozen HG2.out 1; have hdg22 : wl.cell? ⟨g2, 2, none⟩ = some (.slice A2 K.length c2) := (blk_cell HG2.out 2).trans rfl; have heg22 := blk_frozen HG2.out 2; have hdg23 : wl.cell? ⟨g2, 3, none⟩ = some (.slice Ap K.length cp) := (blk_cell HG2.out 3).trans rfl; have heg23 := blk_frozen HG2.out 3
              have hdg10 : wl.cell? ⟨g1, 0, none⟩ = some (.int .i64 0) := (blk_cell HK1L.out 0).trans rfl; have heg10 := blk_frozen HK1L.out 0; have hdg11 : wl.cell? ⟨g1, 1, none⟩ = some (.slice none 0 0) := (blk_cell HK1L.out 1).trans rfl; have heg11 := blk_frozen HK1L.out 1; have hdg12 : wl.cell? ⟨g1, 2, none⟩ = some (.slice none 0 0) := (blk_cell HK1L.out 2).trans rfl; have heg12 := blk_frozen HK1L.out 2; have hdg13 : wl.cell? ⟨g1, 3, none⟩ = some (.slice none 0 0) := (blk_cell HK1L.out 3).trans rfl; have heg13 := blk_frozen HK1L.out 3
              go_wp2
              refine bodyPost_ret (results_ct rfl _ _ g1 50 #[.int .i64 b, .slice A1 ls.length c1, .slice A2 K.length c2, .slice Ap K.length cp] (0, 0) _ rfl (by (with_reducible repeat (first | refine blk_drewN ?_ _ | refine blk_drew ?_ | refine blk_alloc ?_ _)); refine blk_put (cs := #[.int .i64 b, .slice A1 ls.length c1, .slice A2 K.length c2, .slice none 0 0]) ?_ 3 _ rfl; (with_reducible repeat (first | refine blk_drewN ?_ _ | refine blk_drew ?_ | refine blk_alloc ?_ _)); refine blk_put (cs := #[.int .i64 b, .slice A1 ls.length c1, .slice none 0 0, .slice none 0 0]) ?_ 2 _ rfl; (with_reducible repeat (first | refine blk_drewN ?_ _ | refine blk_drew ?_ | refine blk_alloc ?_ _)); refine blk_put (cs := #[.int .i64 b, .slice none 0 0, .slice none 0 0, .slice none 0 0]) ?_ 1 _ rfl; (with_reducible repeat (first | refine blk_drewN ?_ _ | refine blk_drew ?_ | refine blk_alloc ?_ _)); refine blk_put (cs := #[.int .i64 0, .slice none 0 0, .slice none 0 0, .slice none 0 0]) ?_ 0 _ rfl; (with_reducible repeat (first | refine blk_drewN ?_ _ | refine blk_drew ?_ | refine blk_alloc ?_ _)); exact HK1L.out) Try.underlying50 rfl (by kernel_rfl)) rfl ?_
              rw [HBG.out]
              refine ⟨_, rfl, ?_, below_set (below_set (below_set (below_set HBL.out (by omega)) (by omega)) (by omega)) (by omega)⟩
              show tSeg.M _ _ _ (seg b ls) _
              rw [HSEG.out]
              have m1 : HelpBB.tBB.M wl w.heap.size (fun k => wo.heap.size ≤ k ∧ k < wa.heap.size) ls (.slice A1 ls.length c1) := Kd.S_mono (Kd.S_lower (Kd.S_step HM1.out (fun k hk _ => HKP.out.2 k (by have := hk.2.2.1; omega) (by have := hk.2.2.1; omega))) (by omega)) (fun k hk => ⟨hk.2.1, hk.2.2.1⟩)
              have m2 : HelpI.tI.M wl w.heap.size (fun k => wa.heap.size ≤ k ∧ k < ws.heap.size) K (.slice A2 K.length c2) := Kd.R_mono (Kd.R_lower (Kd.R_step HM2.out (fun k hk _ => HKP.out.2 k (by have := hk.2.2.1; omega) (by have := hk.2.2.1; omega))) (by omega)) (fun k hk => ⟨hk.2.1, hk.2.2.1⟩)
              have m3 : HelpII.tII.M wl w.heap.size (okP Ent K w1.heap.size wo.heap.size w5.heap.size K.length) (K.map (post b ls ls.length)) (.slice Ap K.length cp) := HS3.out
              refine ⟨_, rfl, tys.M_mono (fun _ _ => trivial) (Tys.cons_apart (a := Ty.sc (Value.int .i64)) (ok1 := fun _ => False) rfl (Tys.cons_apart (Ty.M_set (T := HelpBB.tBB) (Ty.M_set (T := HelpBB.tBB) (Ty.M_set (T := HelpBB.tBB) (Ty.M_set (T := HelpBB.tBB) m1 (fun k hk e => by have h1 := hk.1; omega) _) (fun k hk e => by have h1 := hk.1; omega) _) (fun k hk e => by have h1 := hk.1; omega) _) (fun k hk e => by have h1 := hk.1; omega) _) (Tys.cons_apart (Ty.M_set (T := HelpI.tI) (Ty.M_set (T := HelpI.tI) (Ty.M_set (T := HelpI.tI) (Ty.M_set (T := HelpI.tI) m2 (fun k hk e => by have h1 := hk.1; omega) _) (fun k hk e => by have h1 := hk.1; omega) _) (fun k hk e => by have h1 := hk.1; omega) _) (fun k hk e => by have h1 := hk.1; omega) _) (Tys.M_one (Ty.M_set (T := HelpII.tII) (Ty.M_set (T := HelpII.tII) (Ty.M_set (T := HelpII.tII) (Ty.M_set (T := HelpII.tII) m3 (fun k hk e => by rcases hk with ⟨h1, h2, _⟩ | h1 <;> omega) _) (fun k hk e => by rcases hk with ⟨h1, h2, _⟩ | h1 <;> omega) _) (fun k hk e => by rcases hk with ⟨h1, h2, _⟩ | h1 <;> omega) _) (fun k hk e => by rcases hk with ⟨h1, h2, _⟩ | h1 <;> omega) _)) ?d2) ?d1) (fun _ _ h => h))⟩
              case d2 => exact fun k hk hk1 => by have h3 := hk1.1; have h4 := hk1.2; rcases hk with ⟨h1, h2, _⟩ | h1 <;> omega
              case d1 => exact fun k hk hk1 => by have h3 := hk1.1; have h4 := hk1.2; rcases hk with hk | ⟨h1, h2, _⟩ | h1; (have h5 := hk.1; omega); omega; omega
abbrev code (b : Int) (ls : List (List Int)) : Int := (build b ls).2
abbrev ans (b : Int) (ls : List (List Int)) : SegT := (build b ls).1
end Go.Proofs.Ytmgmdnmfalepkaa.Build

namespace Go.Proofs.Ytmgmdnmfalepkaa.Sto
open Go.RowKit Go.Proofs.YtmgmdnmfalepkaaW.PrintWords Go.Proofs.YtmgmdnmfalepkaaW.PrintMore Go.Proofs.Ytmgmdnmfalepkaa.Kit Go.Proofs.Ytmgmdnmfalepkaa.PKit Go.Proofs.Ytmgmdnmfalepkaa.Ty Go.Proofs.Ytmgmdnmfalepkaa.PSeg Go.Proofs.Ytmgmdnmfalepkaa.PEnc Go.Proofs.Ytmgmdnmfalepkaa.PDec Go.Proofs.Ytmgmdnmfalepkaa.PSta Go.Proofs.Ytmgmdnmfalepkaa.HelpBB Go.Proofs.Ytmgmdnmfalepkaa.HelpSeg
open Go.Proofs.Ytmgmdnmfalepkaa.Build hiding code ans
set_option linter.unusedVariables false
set_option linter.unusedSimpArgs false
theorem cells2 {w : World} {g : Nat} {t : TypeId} {a0 a1 : Value} (h : w.heap[g]? = some (.cells #[a0, a1] t (0, 0))) : (w.cell? ⟨g, 0, none⟩ = some a0 ∧ w.frozen? ⟨g, 0, none⟩ = false) ∧ (w.cell? ⟨g, 1, none⟩ = some a1 ∧ w.frozen? ⟨g, 1, none⟩ = false) := ⟨⟨(blk_cell h 0).trans rfl, blk_frozen h 0⟩, ⟨(blk_cell h 1).trans rfl, blk_frozen h 1⟩⟩
theorem cells4 {w : World} {g : Nat} {t : TypeId} {a0 a1 a2 a3 : Value} (h : w.heap[g]? = some (.cells #[a0, a1, a2, a3] t (0, 0))) : (w.cell? ⟨g, 0, none⟩ = some a0 ∧ w.frozen? ⟨g, 0, none⟩ = false) ∧ (w.cell? ⟨g, 1, none⟩ = some a1 ∧ w.frozen? ⟨g, 1, none⟩ = false) ∧ (w.cell? ⟨g, 2, none⟩ = some a2 ∧ w.frozen? ⟨g, 2, none⟩ = false) ∧ (w.cell? ⟨g, 3, none⟩ = some a3 ∧ w.frozen? ⟨g, 3, none⟩ = false) := ⟨⟨(blk_cell h 0).trans rfl, blk_frozen h 0⟩, ⟨(blk_cell h 1).trans rfl, blk_frozen h 1⟩, ⟨(blk_cell h 2).trans rfl, blk_frozen h 2⟩, ⟨(blk_cell h 3).trans rfl, blk_frozen h 3⟩⟩
def zS : SegT := (0, [], [], [])
def kSeg : Kd SegT := Kd.pair (Kd.int .i64) (Kd.pair (Kd.slice 33 kB) (Kd.pair (Kd.slice 3 (Kd.int .i64)) (Kd.slice 22 HelpII.kI)))
theorem kSeg_open {w : World} {x : SegT} {cs : List Value} (h : kSeg.K w x cs) : ∃ (A1 : Option Addr) (c1 : Nat) (A2 : Option Addr) (c2 : Nat) (A3 : Option Addr) (c3 : Nat), cs = [.int .i64 x.1, .slice A1 x.2.1.length c1, .slice A2 x.2.2.1.length c2, .slice A3 x.2.2.2.length c3] ∧ tSeg.K w x (.agg #[.int .i64 x.1, .slice A1 x.2.1.length c1, .slice A2 x.2.2.1.length c2, .slice A3 x.2.2.2.length c3]) := by
  obtain ⟨_, _, rfl, rfl, ⟨_, _, rfl, ⟨A1, c1, rfl, l1, g1⟩, ⟨_, _, rfl, ⟨A2, c2, rfl, l2, g2⟩, ⟨A3, c3, rfl, l3, g3⟩⟩⟩⟩ := h
  exact ⟨A1, c1, A2, c2, A3, c3, rfl, [_, _, _, _], rfl, _, _, rfl, rfl, _, _, rfl, ⟨A1, c1, rfl, l1, g1⟩, _, _, rfl, ⟨A2, c2, rfl, l2, g2⟩, _, rfl, ⟨A3, c3, rfl, l3, g3⟩⟩
theorem kSeg_mk {w : World} {base : Nat} {ok : Nat → Prop} {x : SegT} {v : Value} (h : tSeg.M w base ok x v) : ∃ (A1 : Option Addr) (c1 : Nat) (A2 : Option Addr) (c2 : Nat) (A3 : Option Addr) (c3 : Nat), v = .agg #[.int .i64 x.1, .slice A1 x.2.1.length c1, .slice A2 x.2.2.1.length c2, .slice A3 x.2.2.2.length c3] ∧ kSeg.M w base ok x [.int .i64 x.1, .slice A1 x.2.1.length c1, .slice A2 x.2.2.1.length c2, .slice A3 x.2.2.2.length c3] := by
  obtain ⟨l, rfl, v0, r0, o1, o2, rfl, h1, h2, rfl, v1, r1, o3, o4, rfl, h3, h4, m1, v2, r2, o5, o6, rfl, h5, h6, m2, v3, rfl, m3⟩ := h
  obtain ⟨A1, c1, rfl⟩ := Kd.S_slice m1
  obtain ⟨A2, c2, rfl⟩ := Kd.R_slice m2
  obtain ⟨A3, c3, rfl⟩ := Kd.S_slice m3
  exact ⟨A1, c1, A2, c2, A3, c3, rfl, [_], [_, _, _], rfl, rfl, [_], [_, _], rfl, ⟨_, rfl, Kd.R_mono (Kd.S_R m1) (fun k hk => (h2 k (h3 k hk)).1)⟩, [_], [_], rfl, ⟨_, rfl, Kd.R_mono m2 (fun k hk => (h2 k (h4 k (h5 k hk)).1).1)⟩, ⟨_, rfl, Kd.R_mono (Kd.S_R m3) (fun k hk => (h2 k (h4 k (h6 k hk).1).1).1)⟩⟩
theorem at_seg {w : World} {A : Option Addr} {n : Nat} {xs : List SegT} (h : Kd.C kSeg w A n xs) (i : Nat) (hi : i < n) : ∃ (ad : Addr) (A1 : Option Addr) (c1 : Nat) (A2 : Option Addr) (c2 : Nat) (A3 : Option Addr) (c3 : Nat), A = some ad ∧ (w.cell? (ad.add (i * 4)) = some (.int .i64 (xs.getD i zS).1) ∧
    w.cell? ⟨(ad.add (i * 4)).block, (ad.add (i * 4)).off + 1, none⟩ = some (.slice A1 (xs.getD i zS).2.1.length c1) ∧
    w.cell? ⟨(ad.add (i * 4)).block, (ad.add (i * 4)).off + 2, none⟩ = some (.slice A2 (xs.getD i zS).2.2.1.length c2) ∧
    w.cell? ⟨(ad.add (i * 4)).block, (ad.add (i * 4)).off + 3, none⟩ = some (.slice A3 (xs.getD i zS).2.2.2.length c3)) ∧ tSeg.K w (xs.getD i zS) (.agg #[.int .i64 (xs.getD i zS).1, .slice A1 (xs.getD i zS).2.1.length c1, .slice A2 (xs.getD i zS).2.2.1.length c2, .slice A3 (xs.getD i zS).2.2.2.length c3]) := by
  obtain ⟨ad, c, e, _, hK, hc0⟩ := Kd.C_get h zS (i : Int) (by omega) (by omega)
  rw [Int.toNat_natCast] at hK hc0
  have hc : ∀ j u, c[j]? = some u → w.cell? (ad.add (i * 4 + j)) = some u := hc0
  obtain ⟨A1, c1, A2, c2, A3, c3, rfl, hT⟩ := kSeg_open hK
  exact ⟨ad, A1, c1, A2, c2, A3, c3, e, ⟨hc 0 _ rfl, by rw [← add_field _ _ 1 (by omega)]; exact hc 1 _ rfl, by rw [← add_field _ _ 2 (by omega)]; exact hc 2 _ rfl, by rw [← add_field _ _ 3 (by omega)]; exact hc 3 _ rfl⟩, hT⟩
theorem cells_later {w W : World} {p : Addr} {u0 u1 u2 u3 : Value} (hb : Below w.heap.size w W) (h : w.cell? p = some u0 ∧ w.cell? ⟨p.block, p.off + 1, none⟩ = some u1 ∧ w.cell? ⟨p.block, p.off + 2, none⟩ = some u2 ∧ w.cell? ⟨p.block, p.off + 3, none⟩ = some u3) : W.cell? p = some u0 ∧ W.cell? ⟨p.block, p.off + 1, none⟩ = some u1 ∧ W.cell? ⟨p.block, p.off + 2, none⟩ = some u2 ∧ W.cell? ⟨p.block, p.off + 3, none⟩ = some u3 :=
  have hl := World.block_lt_of_cell? w _ h.1
  ⟨(hb.cell hl).trans h.1, (hb.cell (p := ⟨p.block, p.off + 1, none⟩) hl).trans h.2.1, (hb.cell (p := ⟨p.block, p.off + 2, none⟩) hl).trans h.2.2.1, (hb.cell (p := ⟨p.block, p.off + 3, none⟩) hl).trans h.2.2.2⟩
theorem seg_snoc (ss : List SegT) (i : Nat) (hi : i < ss.length) : ss.take (i + 1) = ss.take i ++ [ss.getD i zS] := by
  rw [List.take_succ_eq_append_getElem hi]; simp [List.getD, List.getElem?_eq_getElem hi]
theorem nlin_one (s : SegT) : nlin [s] = s.2.1.length := by simp [nlin]
theorem tots_one (s : SegT) : tots [s] = totalB s.2.1 := by simp [tots]
theorem nlin_take (ss : List SegT) (i : Nat) : nlin (ss.take i) ≤ nlin ss := by
  have h := nlin_append (ss.take i) (ss.drop i)
  rw [List.take_append_drop] at h
  omega
def Good (s : SegT) : Prop := s = seg s.1 s.2.1 ∧ fits s.1 s.2.1 = true ∧ Bytes s.2.1
theorem infoSeg : (Try.prog.info? 50).map (fun i => (i.zero, i.size, i.bytes)) = some (some (.agg #[.int .i64 0, .slice none 0 0, .slice none 0 0, .slice none 0 0]), 4, 80) := by kernel_rfl
end Go.Proofs.Ytmgmdnmfalepkaa.Sto

namespace Go.Proofs.Ytmgmdnmfalepkaa.Bld
open Go.RowKit Go.Proofs.YtmgmdnmfalepkaaW.PrintWords Go.Proofs.YtmgmdnmfalepkaaW.PrintMore Go.Proofs.Ytmgmdnmfalepkaa.Kit Go.Proofs.Ytmgmdnmfalepkaa.PKit Go.Proofs.Ytmgmdnmfalepkaa.Ty Go.Proofs.Ytmgmdnmfalepkaa.PTri Go.Proofs.Ytmgmdnmfalepkaa.PSeg Go.Proofs.Ytmgmdnmfalepkaa.Build Go.Proofs.Ytmgmdnmfalepkaa.HelpBB
set_option linter.unusedVariables false
set_option linter.unusedSimpArgs false
theorem cells4 {w : World} {g : Nat} {t : TypeId} {a0 a1 a2 a3 : Value} (h : w.heap[g]? = some (.cells #[a0, a1, a2, a3] t (0, 0))) : (w.cell? ⟨g, 0, none⟩ = some a0 ∧ w.frozen? ⟨g, 0, none⟩ = false) ∧ (w.cell? ⟨g, 1, none⟩ = some a1 ∧ w.frozen? ⟨g, 1, none⟩ = false) ∧ (w.cell? ⟨g, 2, none⟩ = some a2 ∧ w.frozen? ⟨g, 2, none⟩ = false) ∧ (w.cell? ⟨g, 3, none⟩ = some a3 ∧ w.frozen? ⟨g, 3, none⟩ = false) := ⟨⟨(blk_cell h 0).trans rfl, blk_frozen h 0⟩, ⟨(blk_cell h 1).trans rfl, blk_frozen h 1⟩, ⟨(blk_cell h 2).trans rfl, blk_frozen h 2⟩, ⟨(blk_cell h 3).trans rfl, blk_frozen h 3⟩⟩
theorem infoI : (Try.prog.info? 3).map (fun i => (i.zero, i.size, i.bytes)) = some (some (.int .i64 0), 1, 8) := by kernel_rfl
theorem infoII : (Try.prog.info? 22).map (fun i => (i.zero, i.size, i.bytes)) = some (some (.slice none 0 0), 1, 24) := by kernel_rfl
theorem tri_calls (A : Option Addr) (c : Nat) (l : List Int) (w : World) (hr : Kd.C (Kd.int .u8) w A l.length l) (hc : l.length ≤ c) (hb : ∀ x ∈ l, 0 ≤ x ∧ x ≤ 255) (hs : l.length ≤ 1048576) :
    Calls Try.prog 19 #[.slice A l.length c] w fun e w' => ∃ v, e = .returned v ∧ Kd.R (Kd.int .i64) 3 w' w.heap.size (fun _ => True) v (ord (tris l)) ∧ Below w.heap.size w w' := by
  obtain ⟨k, hk⟩ := (PTri.spec_ev l hb hs).rounds
  exact L.spec_Trigrams.calls k A c l _ w hr hc hk
theorem copy_spec (A : Option Addr) (c : Nat) (ls : List (List Int)) (w : World) (hr : Kd.C kB w A ls.length ls) (hc : ls.length ≤ c) (hs : smallBB ls) :
    Calls Try.prog 134 #[.slice A ls.length c] w fun e w' => ∃ v, e = .returned v ∧ Kd.S kB 33 w' w.heap.size (fun _ => True) v ls ∧ Below w.heap.size w w' := by
  obtain ⟨k, hk⟩ := (copy_ev ls hs).rounds
  exact L.spec_l4copy.calls k A c ls _ w hr hc hk
theorem keys_spec (A : Option Addr) (c : Nat) (ls : List (List Int)) (w : World) (hr : Kd.C kB w A ls.length ls) (hc : ls.length ≤ c) (hb : Bytes ls) (hs : smallBB ls) :
    Calls Try.prog 135 #[.slice A ls.length c] w fun e w' => ∃ v, e = .returned v ∧ Kd.R (Kd.int .i64) 3 w' w.heap.size (fun _ => True) v (keys ls) ∧ Below w.heap.size w w' := by
  obtain ⟨k, hk⟩ := (keys_ev ls.length ls (Nat.le_refl _) hb hs).rounds
  exact L.spec_l4keys.calls k A c ls _ w hr hc hk
theorem inl_calls (A : Option Addr) (c : Nat) (T : List Int) (t : Int) (W : World) (hr : Kd.C (Kd.int .i64) W A T.length T) (hc : T.length ≤ c) (hl : T.length ≤ 1048576) :
    Calls Try.prog 136 #[.slice A T.length c, .int .i64 t] W fun e w' => e = .returned (.bool (decide (t ∈ T))) ∧ ∃ nd, w' = W.drewN nd := by
  obtain ⟨k, hk⟩ := (inList_ev T t (by omega)).rounds
  refine (L.spec_l2inList.calls k A c T t _ W hr hc hk).mono ?_
  rintro e w' ⟨rfl, hd⟩
  exact ⟨rfl, hd.out⟩
set_option maxRecDepth 100000 in
set_option maxHeartbeats 8000000 in
theorem bld_calls (b : Int) (A : Option Addr) (n c : Nat) (ls : List (List Int)) (hn : n = ls.length) (w : World) (hr : Kd.C kB w A ls.length ls) (hc : ls.length ≤ c) (hb : Bytes ls) (hs : smallBB ls) (b0 : 0 ≤ b) (b1 : b ≤ 1000) (hl : ls.length ≤ 1000) :
    Calls Try.prog 92 #[.int .i64 b, .slice A n c] w fun e w' => ∃ (A1 : Option Addr) (c1 : Nat) (A2 : Option Addr) (c2 : Nat) (A3 : Option Addr) (c3 : Nat), e = .returned (.agg #[.int .i64 b, .slice A1 n c1, .slice A2 (keys ls).length c2, .slice A3 (keys ls).length c3]) ∧ HelpBB.tBB.M w' w.heap.size (fun _ => True) ls (.slice A1 n c1) ∧ HelpI.tI.M w' w.heap.size (fun _ => True) (keys ls) (.slice A2 (keys ls).length c2) ∧ HelpII.tII.M w' w.heap.size (fun _ => True) ((keys ls).map (post b ls ls.length)) (.slice A3 (keys ls).length c3) ∧ Grew w w' := by
  subst hn
  have huI := Try.underlying50
  have HR := Aside0.mk hr
  have HY := Aside0.mk hb
  have hcp := fun (W : World) (hW : Below w.heap.size w W) => copy_spec A c ls W (Kd.C_below HR.out hW) hc hs
  have hky := fun (W : World) (hW : Below w.heap.size w W) => keys_spec A c ls W (Kd.C_below HR.out hW) hc HY.out hs
  have HCP := Aside0.mk hcp
  have HKY := Aside0.mk hky
  have HSM := Aside0.mk hs
  clear hr hb hcp hky hs
  go_enter Try.func92, Try.ntmps92
  go_wp2_with (((with_reducible refine gate_dst (N := 4) rfl ?_); refine box_event ?hg (N := 4) ?hd (cs := #[.int .i64 0, .slice none 0 0, .slice none 0 0, .slice none 0 0]) (t := 50) ?hr ?_; (case hd => rfl); (case hg => rfl); (case hr => first | (go_simp; done) | (go_simp; rfl)); intro gr hg_ w1 hbx hbb; have BKgr := Aside0.mk hbx; have GEgr := Aside0.mk (show w.heap.size ≤ gr from Nat.le_of_eq hg_.symm); have GLgr := Aside0.mk (blk_lt hbx); have HBw1 := Aside0.mk hbb; clear hg_ hbb; obtain ⟨⟨hgrc0, hgrf0⟩, ⟨hgrc1, hgrf1⟩, ⟨hgrc2, hgrf2⟩, ⟨hgrc3, hgrf3⟩⟩ := cells4 hbx; clear hbx))
  go_at_call 134
  refine (HCP.out _ HBw1.out).mono ?_
  rintro e w2 ⟨v2, rfl, hS2, hb2⟩
  obtain ⟨A1, c1, rfl⟩ := Kd.S_slice hS2
  have HC2 := Aside0.mk hS2
  have HB12 := Aside0.mk hb2
  have HB2 := Aside0.mk (show Below w.heap.size w w2 from grew_trans HBw1.out hb2)
  replace BKgr := Aside0.mk (blk_below BKgr.out hb2)
  clear hgrc0 hgrf0 hgrc1 hgrf1 hgrc2 hgrf2 hgrc3 hgrf3
  clear hS2 hb2
  go_wp2_with fail
  obtain ⟨gs, hgs⟩ : ∃ g_, g_ = w2.heap.size := ⟨_, rfl⟩
  obtain ⟨w3, hw3⟩ : ∃ w_, w_ = w2.alloc (.cells #[.int .i64 b, .slice A1 ls.length c1, .slice none 0 0, .slice none 0 0] 50 (0, 0)) := ⟨_, rfl⟩
  rw [← hw3, ← hgs]
  have BKgs := Aside0.mk (show w3.heap[gs]? = some (.cells #[.int .i64 b, .slice A1 ls.length c1, .slice none 0 0, .slice none 0 0] 50 (0, 0)) from by rw [hw3, hgs]; exact blk_new w2 _)
  have hb3 : Below w2.heap.size w2 w3 := by rw [hw3]; exact below_alloc (Below.refl _ _) _
  have GS := Aside0.mk (show w2.heap.size ≤ gs from Nat.le_of_eq hgs.symm)
  have HB23 := Aside0.mk hb3
  have HB3 := Aside0.mk (show Below w.heap.size w w3 from grew_trans HB2.out hb3)
  replace BKgr := Aside0.mk (blk_below BKgr.out hb3)
  have GSL := Aside0.mk (blk_lt BKgs.out)
  have NEGR := Aside0.mk (show gr ≠ gs from fun e => by have h1 := GLgr.out; have h2 := GS.out; have h3 := HB12.out.size; omega)
  clear hgs hw3 hb3
  go_at_call 135
  refine (HKY.out w3 HB3.out).mono ?_
  rintro e w4 ⟨v4, rfl, hR4, hb4⟩
  obtain ⟨A2, c2, rfl⟩ := Kd.R_slice hR4
  replace BKgr := Aside0.mk (blk_below BKgr.out hb4)
  replace BKgs := Aside0.mk (blk_below BKgs.out hb4)
  have HB34 := Aside0.mk hb4
  have HR4 := Aside0.mk hR4
  have HB4 := Aside0.mk (show Below w.heap.size w w4 from grew_trans HB3.out hb4)
  clear hR4 hb4
  obtain ⟨⟨sc0, sf0⟩, ⟨sc1, sf1⟩, ⟨sc2, sf2⟩, ⟨sc3, sf3⟩⟩ := cells4 BKgs.out
  go_wp2_with fail
  obtain ⟨w5, hw5⟩ : ∃ w_, w_ = w4.setCell ⟨gs, 2, none⟩ (.slice A2 (keys ls).length c2) := ⟨_, rfl⟩
  rw [← hw5]
  have HZ45 := Aside0.mk (show w5.heap.size = w4.heap.size from by rw [hw5]; simp [World.setCell])
  have HB45 := Aside0.mk (show Below w.heap.size w w5 from by rw [hw5]; exact below_set HB4.out (Nat.le_trans HB2.out.size GS.out))
  replace BKgs := Aside0.mk (show w5.heap[gs]? = some (.cells #[.int .i64 b, .slice A1 ls.length c1, .slice A2 (keys ls).length c2, .slice none 0 0] 50 (0, 0)) from by rw [hw5]; exact blk_put (cs := #[.int .i64 b, .slice A1 ls.length c1, .slice none 0 0, .slice none 0 0]) BKgs.out 2 _ rfl)
  replace BKgr := Aside0.mk (show w5.heap[gr]? = some (.cells #[.int .i64 0, .slice none 0 0, .slice none 0 0, .slice none 0 0] 50 (0, 0)) from by rw [hw5]; exact blk_far BKgr.out NEGR.out _)
  have HZ5 := Aside0.mk (show w3.heap.size ≤ w5.heap.size from by have h1 := HZ45.out; have h2 := HB34.out.size; omega)
  replace HC2 := Aside0.mk (show HelpBB.tBB.M w5 w.heap.size (fun k => gr < k ∧ k < gs) ls (.slice A1 ls.length c1) from by
    rw [hw5]
    exact HelpBB.tBB.M_mono (fun k hk => by have h1 := hk.2.2; have h2 := GS.out; have h3 := hk.2.1; have h4 := GLgr.out; exact ⟨by omega, by omega⟩) (Ty.M_set (T := HelpBB.tBB) (Ty.M_below (T := HelpBB.tBB) (HelpBB.tBB.M_lower HBw1.out.size (HelpBB.tBB.M_bound HC2.out)) (grew_trans HB23.out HB34.out)) (fun k hk e => by have h1 := hk.2.2; have h2 := GS.out; omega) _))
  replace HR4 := Aside0.mk (show HelpI.tI.M w5 w.heap.size (fun k => gs < k ∧ k < w5.heap.size) (keys ls) (.slice A2 (keys ls).length c2) from by
    have hz := HZ45.out
    rw [hz, hw5]
    exact HelpI.tI.M_mono (fun k hk => by have h1 := hk.2.1; have h2 := GSL.out; have h3 := hk.2.2; exact ⟨by omega, h3⟩) (Ty.M_set (T := HelpI.tI) (HelpI.tI.M_lower HB3.out.size (HelpI.tI.M_bound HR4.out)) (fun k hk e => by have h1 := hk.2.1; have h2 := GSL.out; omega) _))
  clear hw5 sc0 sf0 sc1 sf1 sc2 sf2 sc3 sf3
  go_loopg [6, 7] ls.length (fun gg s6 s7 wr => ∃ i : Nat, i ≤ ls.length ∧ ls.length - i ≤ gg ∧ s7 = .int .i64 (i : Int) ∧ Aside0 (Kd.S HelpII.kI 22 wr w5.heap.size (fun _ => True) s6 ((ls.take i).map fun l => ord (tris l))) ∧ Aside0 (Below w5.heap.size w5 wr))
  case atStart => exact ⟨0, by omega, by omega, rfl, ⟨Kd.S_nil _ _ _ _ _⟩, ⟨Below.refl _ _⟩⟩
  case round =>
    obtain ⟨i, hi, hg, rfl, HS, HB⟩ := hrel
    by_cases hlt : i < ls.length
    · have hltz : (i : Int) < (ls.length : Int) := by omega
      have ht := getD_len ls i
      have hsm : ls.length + totalB ls ≤ 1048576 := HSM.out
      have HBT := Aside0.mk (show Below w.heap.size w wr from grew_trans HB45.out HB.out)
      obtain ⟨ad, u, rfl, hcell0, hK⟩ := get_one (d := kB) rfl HR.out [] i hlt
      obtain ⟨A', c', e', hc', hr'⟩ := hK
      obtain rfl : u = .slice A' (ls.getD i []).length c' := by injection e'
      have hcell : wr.cell? (ad.add i) = some (.slice A' (ls.getD i []).length c') := (HBT.out.cell (World.block_lt_of_cell? w _ hcell0)).trans hcell0
      have htr := tri_calls A' c' (ls.getD i []) wr (Kd.C_below hr' HBT.out) hc' (getD_bytes HY.out i) (by omega)
      have hts : (ls.take (i + 1)).map (fun l => ord (tris l)) = (ls.take i).map (fun l => ord (tris l)) ++ [ord (tris (ls.getD i []))] := by rw [take_snoc ls i hlt, List.map_append]; rfl
      have hol : (ord (tris (ls.getD i []))).length ≤ 1048576 := by have h1 := ord_len (tris (ls.getD i [])); have h2 := tris_length (ls.getD i []); omega
      have HTR := Aside0.mk htr
      have HTS := Aside0.mk hts
      clear hr' e' hcell0 htr hts hsm
      generalize ord (tris (ls.getD i [])) = T at HTR HTS hol
      generalize ls.getD i [] = l at ht hcell hc' HTR
      go_wp2_with (first | (go_at_call 19; refine HTR.out.mono ?_; rintro e w7 ⟨v7, rfl, hR7, hb7⟩; obtain ⟨Av, cv, rfl⟩ := Kd.R_slice hR7) | (at_builtin; refine Kd.S_append HelpII.kI (w0 := w5) w5.heap.size rfl (.tmp 24) (.tmp 30) 42 22 (.slice none 0 0) 24 rfl Try.underlying42 infoII rfl (by decide) (by omega) u6 ((ls.take i).map fun l => ord (tris l)) T [.slice Av T.length cv] (fun _ => True) (fun k_ => some k_ = (.slice Av T.length cv : Value).ownBlock) rfl rfl ?aP ?aK (fun _ _ => trivial) ?aO ?aB ?aS ?aL ?_; (case aP => exact Kd.M_row (Kd.R_lower (Kd.R_tight rfl hR7) HB.out.size)); (case aK => exact fun k hk => ⟨trivial, fun e => by have h1 := Kd.R_base hR7 k hk.symm; have h2 := Kd.S_lt HS.out k e.symm; omega⟩); (case aO => exact Kd.S_mono (Kd.S_old HS.out hb7) (fun k hk => ⟨trivial, fun e => by have h1 := Kd.R_base hR7 k e.symm; have h2 := hk.2; omega⟩)); (case aB => exact grew_trans HB.out hb7); (case aS => exact (grew_trans HB.out hb7).size); (case aL => (rw [List.length_map, List.length_take]; omega)); intro v8 w8 hO8 hB8 hg8 hat8))
      go_roundg (ls.length - (i + 1))
      case measure => omega
      case rel => exact ⟨i + 1, by omega, by omega, by go_num, ⟨by rw [HTS.out]; exact hO8⟩, ⟨hB8⟩⟩
    · have hltz : ¬ (i : Int) < (ls.length : Int) := by omega
      obtain rfl : i = ls.length := by omega
      have hS := HS.out
      rw [List.take_length] at hS
      obtain ⟨A4, c4, rfl⟩ := Kd.S_slice hS
      have HT := Aside0.mk (show HelpII.tII.M wr w5.heap.size (fun k => w5.heap.size ≤ k ∧ k < wr.heap.size) (ls.map fun l => ord (tris l)) (.slice A4 (ls.map fun l => ord (tris l)).length c4) from HelpII.tII.M_mono (fun k hk => ⟨hk.2.1, hk.2.2⟩) (HelpII.tII.M_bound hS))
      rename World => wP
      replace BKgs := Aside0.mk (blk_below BKgs.out HB.out)
      replace BKgr := Aside0.mk (blk_below BKgr.out HB.out)
      replace HC2 := Aside0.mk (Ty.M_below (T := HelpBB.tBB) HC2.out HB.out)
      replace HR4 := Aside0.mk (Ty.M_below (T := HelpI.tI) HR4.out HB.out)
      have HBP := Aside0.mk (show Below w.heap.size w wP from grew_trans HB45.out HB.out)
      have HZP := Aside0.mk HB.out.size
      have GSP := Aside0.mk (blk_lt BKgs.out)
      have hkl : (keys ls).length ≤ 1048576 := by have h1 := keys_len ls; have h2 : ls.length + totalB ls ≤ 1048576 := HSM.out; omega
      clear hS HS HB
      go_wp2_with fail
      go_loopg [8] (keys ls).length (fun gg s8 wr => ∃ (j : Nat) (Ap : Option Addr) (cp : Nat), j ≤ (keys ls).length ∧ (keys ls).length - j ≤ gg ∧ s8 = .int .i64 (j : Int) ∧ Aside0 (wr.heap[gs]? = some (.cells #[.int .i64 b, .slice A1 ls.length c1, .slice A2 (keys ls).length c2, .slice Ap j cp] 50 (0, 0))) ∧ Aside0 (Kd.S HelpII.kI 22 wr w.heap.size (fun k => wP.heap.size ≤ k) (.slice Ap j cp) (((keys ls).take j).map (post b ls ls.length))) ∧ Aside0 (∀ k, (Value.slice Ap j cp).ownBlock = some k → wP.heap.size ≤ k) ∧ Aside0 (Kept wP wr (fun k => k = gs)) ∧ Aside0 (Below w.heap.size w wr))
      case atStart => exact ⟨0, none, 0, by omega, by omega, rfl, BKgs, ⟨Kd.S_nil _ _ _ _ _⟩, ⟨fun k hk => by simp [Value.ownBlock] at hk⟩, ⟨Kept.refl _ _⟩, HBP⟩
      case round =>
        obtain ⟨j, Ap, cp, hj, hg, rfl, HG, HS, HO, HK, HB⟩ := hrel
        by_cases hlj : j < (keys ls).length
        · have hljz : (j : Int) < ((keys ls).length : Int) := by omega
          rename World => wq
          have hz9 := HK.out.1
          have HKC := Aside0.mk (Kd.R_reads' (show Kd.R (Kd.int .i64) 3 wq w.heap.size _ (.slice A2 (keys ls).length c2) (keys ls) from Ty.M_kept (T := HelpI.tI) HR4.out HK.out (fun k hk e => by have h1 := hk.1; omega))).2.2
          have HTC := Aside0.mk (Kd.S_reads' (show Kd.S HelpII.kI 22 wq w5.heap.size _ (.slice A4 (ls.map fun l => ord (tris l)).length c4) (ls.map fun l => ord (tris l)) from Ty.M_kept (T := HelpII.tII) HT.out HK.out (fun k hk e => by have h1 := hk.1; have h2 := GSL.out; have h3 := HZ5.out; omega))).2.2
          obtain ⟨adk, uk, rfl, hck, hKk⟩ := get_one (d := Kd.int .i64) rfl HKC.out 0 j hlj
          obtain rfl : uk = .int .i64 ((keys ls).getD j 0) := by cases hKk; rfl
          have HCK := Aside0.mk hck
          have HTK := Aside0.mk (show ((keys ls).take (j + 1)).map (post b ls ls.length) = ((keys ls).take j).map (post b ls ls.length) ++ [post b ls ls.length ((keys ls).getD j 0)] from by rw [List.take_succ_eq_append_getElem hlj, List.map_append]; simp [List.getD, List.getElem?_eq_getElem hlj])
          clear hck hKk HKC
          generalize (keys ls).getD j 0 = t at HCK HTK
          obtain ⟨⟨qc0, qf0⟩, ⟨qc1, qf1⟩, ⟨qc2, qf2⟩, ⟨qc3, qf3⟩⟩ := cells4 HG.out
          go_wp2_with fail
          clear qc0 qf0 qc1 qf1 qc2 qf2 qc3 qf3
          go_loopg [9, 10] ls.length (fun gg s9 s10 wr => ∃ i : Nat, i ≤ ls.length ∧ ls.length - i ≤ gg ∧ s10 = .int .i64 (i : Int) ∧ Aside0 (Kd.R (Kd.int .i64) 3 wr wq.heap.size (fun _ => True) s9 (post b ls i t)) ∧ Aside0 (Below wq.heap.size wq wr))
          case atStart => exact ⟨0, by omega, by omega, rfl, ⟨Kd.R_nil _ _ _ _ _⟩, ⟨Below.refl _ _⟩⟩
          case round =>
            obtain ⟨i, hi, hg, rfl, HR, HBI⟩ := hrel
            rename World => wi
            have BI := Aside0.mk (blk_below HG.out HBI.out)
            by_cases hlt : i < ls.length
            · have hltz : (i : Int) < (ls.length : Int) := by omega
              obtain ⟨adt, ut, rfl, hct, hKt⟩ := get_one (d := HelpII.kI) rfl HTC.out [] i (by rw [List.length_map]; exact hlt)
              obtain ⟨A', c', e', hc', hr'⟩ := hKt
              obtain rfl : ut = .slice A' ((ls.map fun l => ord (tris l)).getD i []).length c' := by injection e'
              have hT : (ls.map fun l => ord (tris l)).getD i [] = ord (tris (ls.getD i [])) := by simp [List.getD, List.getElem?_eq_getElem hlt]
              have hdec : decide (t ∈ (ls.map fun l => ord (tris l)).getD i []) = hasT ls t i := by
                rw [hT]
                unfold hasT
                exact decide_eq_decide.2 (mem_ord _ _)
              have htl : ((ls.map fun l => ord (tris l)).getD i []).length ≤ 1048576 := by
                have hsm : ls.length + totalB ls ≤ 1048576 := HSM.out
                have h1 := ord_len (tris (ls.getD i [])); have h2 := tris_length (ls.getD i []); have h3 := getD_len ls i
                rw [hT]; omega
              have HPS := Aside0.mk (post_succ b ls i t)
              generalize (ls.map fun l => ord (tris l)).getD i [] = T at hct hc' hr' hdec htl
              have hcell : wi.cell? (adt.add i) = some (.slice A' T.length c') := (HBI.out.cell (World.block_lt_of_cell? wq _ hct)).trans hct
              have hck : wi.cell? (adk.add j) = some (.int .i64 t) := (HBI.out.cell (World.block_lt_of_cell? wq _ HCK.out)).trans HCK.out
              generalize hasT ls t i = hh at hdec HPS
              have HIN := Aside0.mk (fun (W : World) (hW : Below wi.heap.size wi W) => show Calls Try.prog 136 #[.slice A' T.length c', .int .i64 t] W fun e w' => e = .returned (.bool hh) ∧ ∃ nd, w' = W.drewN nd from (inl_calls A' c' T t W (Kd.C_below (Kd.C_below hr' HBI.out) hW) hc' htl).mono (by rintro e w' ⟨rfl, h⟩; exact ⟨by rw [hdec], h⟩))
              clear hr' e' hT htl hdec
              obtain ⟨A9, c9, rfl⟩ := Kd.R_slice HR.out
              have hpl := post_len b ls i t
              have HPL := Aside0.mk (show (post b ls i t).length ≤ 1000 from by omega)
              clear hpl
              generalize post b ls i t = P at HR HPS HPL
              have hwb : wrap64 (b + (i : Int)) = b + (i : Int) := wrap_in (by omega)
              have HWB := Aside0.mk hwb
              clear hwb
              obtain ⟨⟨pc0, pf0⟩, ⟨pc1, pf1⟩, ⟨pc2, pf2⟩, ⟨pc3, pf3⟩⟩ := cells4 BI.out
              cases hh with
              | true =>
                go_wp2_with fail
                go_quiet ((go_at_call 136; (with_reducible refine (HIN.out _ ?s1).mono ?_); (case s1 => repeat (first | exact Below.refl _ _ | apply below_alloc | apply below_drew1 | apply pw_below_drewN)); rintro e w' ⟨rfl, ⟨nd, rfl⟩⟩; (try first | exact ⟨rfl, _, World.drewN_drewN _ _ _⟩ | exact ⟨rfl, _, Eq.trans (World.drewN_drewN _ _ _) (congrArg (World.drewN _) (Nat.add_assoc _ _ _))⟩)))
                go_wp2_with (at_builtin; refine Kd.R_append (Kd.int .i64) (w0 := wq) wq.heap.size rfl (.tmp 55) (.tmp 59) 22 3 (.int .i64 0) 8 rfl Try.underlying22 infoI rfl (by decide) (by omega) (.slice A9 P.length c9) P (b + (i : Int)) [.int .i64 (b + (i : Int))] (fun _ => True) (fun _ => False) rfl ?aQ ?aP (fun _ hk => hk.elim) (fun _ _ => trivial) ?aO ?aB ?aS ?aL ?_; (case aQ => (try rw [← HWB.out]); rfl); (case aP => rfl); (case aO => apply Kd.R_drewN; exact HR.out); (case aB => apply pw_below_drewN; exact HBI.out); (case aS => exact below_size (by apply pw_below_drewN; exact HBI.out)); (case aL => have := HPL.out; omega); intro v7 w7 hO7 hB7 hg7 hat7)
                go_roundg (ls.length - (i + 1))
                case measure => omega
                case rel => exact ⟨i + 1, by omega, by omega, by go_num, ⟨by rw [HPS.out]; simpa using hO7⟩, ⟨hB7⟩⟩
              | false =>
                go_wp2_with fail
                go_quiet ((go_at_call 136; (with_reducible refine (HIN.out _ ?s1).mono ?_); (case s1 => repeat (first | exact Below.refl _ _ | apply below_alloc | apply below_drew1 | apply pw_below_drewN)); rintro e w' ⟨rfl, ⟨nd, rfl⟩⟩; (try first | exact ⟨rfl, _, World.drewN_drewN _ _ _⟩ | exact ⟨rfl, _, Eq.trans (World.drewN_drewN _ _ _) (congrArg (World.drewN _) (Nat.add_assoc _ _ _))⟩)))
                go_wp2_with fail
                go_roundg (ls.length - (i + 1))
                case measure => omega
                case rel => exact ⟨i + 1, by omega, by omega, by go_num, ⟨by rw [HPS.out]; simp only [Bool.false_eq_true, if_false, List.append_nil]; apply Kd.R_drewN; exact HR.out⟩, ⟨by apply pw_below_drewN; exact HBI.out⟩⟩
            · have hltz : ¬ (i : Int) < (ls.length : Int) := by omega
              obtain rfl : i = ls.length := by omega
              obtain ⟨A9, c9, rfl⟩ := Kd.R_slice HR.out
              have HSL := Aside0.mk (show (post b ls ls.length t).length ≤ 1000 from by have h1 := post_len b ls ls.length t; omega)
              have HSQ := Aside0.mk (show HelpII.tII.M wi w.heap.size (fun k => wP.heap.size ≤ k ∧ k < wq.heap.size) (((keys ls).take j).map (post b ls ls.length)) (.slice Ap j cp) from HelpII.tII.M_mono (fun k hk => ⟨hk.1, hk.2.2⟩) (Ty.M_below (T := HelpII.tII) (HelpII.tII.M_bound HS.out) HBI.out))
              have HOL := Aside0.mk (fun k (h : (Value.slice Ap j cp).ownBlock = some k) => Kd.S_lt HS.out k h)
              have HPB := Aside0.mk (fun k (h : (Value.slice A9 (post b ls ls.length t).length c9).ownBlock = some k) => Kd.R_base HR.out k h)
              obtain ⟨⟨pc0, pf0⟩, ⟨pc1, pf1⟩, ⟨pc2, pf2⟩, ⟨pc3, pf3⟩⟩ := cells4 BI.out
              go_wp2_with (at_builtin; refine Kd.S_append HelpII.kI (w0 := w) w.heap.size rfl (.tmp 62) (.tmp 64) 42 22 (.slice none 0 0) 24 rfl Try.underlying42 infoII rfl (by decide) (by omega) (.slice Ap j cp) (((keys ls).take j).map (post b ls ls.length)) (post b ls ls.length t) [.slice A9 (post b ls ls.length t).length c9] (fun k => wP.heap.size ≤ k) (fun k_ => some k_ = (.slice A9 (post b ls ls.length t).length c9 : Value).ownBlock) rfl rfl ?aP ?aK ?aF ?aO ?aB ?aS ?aL ?_; (case aP => exact Kd.M_row (Kd.R_lower (Kd.R_tight rfl HR.out) (by have h1 := HB.out.size; omega))); (case aK => exact fun k hk => ⟨by have h1 := HPB.out k hk.symm; omega, fun e => by have h1 := HPB.out k hk.symm; have h2 := HOL.out k e.symm; omega⟩); (case aF => exact fun k hk => by have h1 := HBI.out.size; omega); (case aO => exact HelpII.tII.M_mono (fun k hk => ⟨hk.1, fun e => by have h1 := HPB.out k e.symm; have h2 := hk.2; omega⟩) HSQ.out); (case aB => exact grew_trans HB.out HBI.out); (case aS => exact (grew_trans HB.out HBI.out).size); (case aL => (rw [List.length_map, List.length_take]; omega)); intro v6 w6 hO6 hB6 hg6 hat6; obtain ⟨A6, c6, e6⟩ := Kd.S_slice hO6; rw [show (((keys ls).take j).map (post b ls ls.length) ++ [post b ls ls.length t]).length = j + 1 from by rw [List.length_append, List.length_map, List.length_take, List.length_singleton]; omega] at e6; subst e6; have BK6 := Aside0.mk (blk_grown (g := gs) BI.out hg6 (fun e => by have h1 := HO.out _ e.symm; have h2 := GSP.out; omega)); obtain ⟨⟨rc0, rf0⟩, ⟨rc1, rf1⟩, ⟨rc2, rf2⟩, ⟨rc3, rf3⟩⟩ := cells4 BK6.out; have HO6 := Aside0.mk hO6; have HB6 := Aside0.mk hB6; have HG6 := Aside0.mk hg6; clear hO6 hB6 hg6 hat6 pc0 pf0 pc1 pf1 pc2 pf2 pc3 pf3)
              have hzq := HK.out.1
              have hzi := HBI.out.size
              go_roundg ((keys ls).length - (j + 1))
              case measure => omega
              case rel =>
                refine ⟨j + 1, A6, c6, by omega, by omega, by go_num, ⟨blk_put (cs := #[.int .i64 b, .slice A1 ls.length c1, .slice (some adk) (keys ls).length c2, .slice Ap j cp]) BK6.out 3 _ rfl⟩, ⟨?_⟩, ⟨fun k hk => (Kd.S_R HO6.out).1 k hk⟩, ⟨?_⟩, ⟨below_set HB6.out (Nat.le_trans HB2.out.size GS.out)⟩⟩
                · rw [HTK.out]
                  exact Ty.M_set (T := HelpII.tII) HO6.out (fun k hk e => by have h1 : wP.heap.size ≤ k := hk; have h2 := GSP.out; omega) _
                · exact ⟨by have h1 := HG6.out.size; simp [World.setCell]; omega, fun k hk hne => (Below.heap_setCell w6 ⟨gs, 3, none⟩ _ k hne).trans ((HG6.out.block k (by omega) (fun e => by have h1 := HO.out _ e.symm; omega)).trans ((HBI.out.block k (by omega)).trans (HK.out.2 k hk hne)))⟩
        · have hljz : ¬ (j : Int) < ((keys ls).length : Int) := by omega
          obtain rfl : j = (keys ls).length := by omega
          have hS := HS.out
          rw [List.take_length] at hS
          have HS9 := Aside0.mk hS
          have BR9 := Aside0.mk (blk_kept BKgr.out HK.out NEGR.out)
          clear hS HS
          obtain ⟨⟨pc0, pf0⟩, ⟨pc1, pf1⟩, ⟨pc2, pf2⟩, ⟨pc3, pf3⟩⟩ := cells4 HG.out
          obtain ⟨⟨rc0, rf0⟩, ⟨rc1, rf1⟩, ⟨rc2, rf2⟩, ⟨rc3, rf3⟩⟩ := cells4 BR9.out
          have hz9 := HK.out.1
          go_wp2
          refine bodyPost_ret (results_cell_row rfl _ _ gr 50 #[.int .i64 b, .slice A1 ls.length c1, .slice A2 (keys ls).length c2, .slice Ap (keys ls).length cp] (0, 0) _ rfl (by (with_reducible repeat (first | refine blk_drewN ?_ _ | refine blk_drew ?_ | refine blk_alloc ?_ _)); refine blk_put (cs := #[.int .i64 b, .slice A1 ls.length c1, .slice A2 (keys ls).length c2, .slice none 0 0]) ?_ 3 _ rfl; (with_reducible repeat (first | refine blk_drewN ?_ _ | refine blk_drew ?_ | refine blk_alloc ?_ _)); refine blk_put (cs := #[.int .i64 b, .slice A1 ls.length c1, .slice none 0 0, .slice none 0 0]) ?_ 2 _ rfl; (with_reducible repeat (first | refine blk_drewN ?_ _ | refine blk_drew ?_ | refine blk_alloc ?_ _)); refine blk_put (cs := #[.int .i64 b, .slice none 0 0, .slice none 0 0, .slice none 0 0]) ?_ 1 _ rfl; (with_reducible repeat (first | refine blk_drewN ?_ _ | refine blk_drew ?_ | refine blk_alloc ?_ _)); refine blk_put (cs := #[.int .i64 0, .slice none 0 0, .slice none 0 0, .slice none 0 0]) ?_ 0 _ rfl; (with_reducible repeat (first | refine blk_drewN ?_ _ | refine blk_drew ?_ | refine blk_alloc ?_ _)); exact BR9.out) Try.underlying50 rfl (by kernel_rfl)) rfl ?_
          refine ⟨A1, c1, A2, c2, Ap, cp, rfl, ?_, ?_, ?_, below_set (below_set (below_set (below_set (HB.out) GEgr.out) GEgr.out) GEgr.out) GEgr.out⟩
          · exact HelpBB.tBB.M_mono (fun _ _ => trivial) ((Ty.M_set (T := HelpBB.tBB) (Ty.M_set (T := HelpBB.tBB) (Ty.M_set (T := HelpBB.tBB) (Ty.M_set (T := HelpBB.tBB) (Ty.M_kept (T := HelpBB.tBB) HC2.out HK.out (fun k hk e => by have h1 := hk.2; omega)) (fun k hk e => by have h1 := hk.1; omega) _) (fun k hk e => by have h1 := hk.1; omega) _) (fun k hk e => by have h1 := hk.1; omega) _) (fun k hk e => by have h1 := hk.1; omega) _))
          · exact HelpI.tI.M_mono (fun _ _ => trivial) ((Ty.M_set (T := HelpI.tI) (Ty.M_set (T := HelpI.tI) (Ty.M_set (T := HelpI.tI) (Ty.M_set (T := HelpI.tI) (Ty.M_kept (T := HelpI.tI) HR4.out HK.out (fun k hk e => by have h1 := hk.1; omega)) (fun k hk e => by have h1 := hk.1; have h2 := GLgr.out; have h3 := GS.out; have h4 := HB12.out.size; omega) _) (fun k hk e => by have h1 := hk.1; have h2 := GLgr.out; have h3 := GS.out; have h4 := HB12.out.size; omega) _) (fun k hk e => by have h1 := hk.1; have h2 := GLgr.out; have h3 := GS.out; have h4 := HB12.out.size; omega) _) (fun k hk e => by have h1 := hk.1; have h2 := GLgr.out; have h3 := GS.out; have h4 := HB12.out.size; omega) _))
          · exact HelpII.tII.M_mono (fun _ _ => trivial) ((Ty.M_set (T := HelpII.tII) (Ty.M_set (T := HelpII.tII) (Ty.M_set (T := HelpII.tII) (Ty.M_set (T := HelpII.tII) (HelpII.tII.M_mono (fun _ h => h) HS9.out) (fun k hk e => by have h1 : wP.heap.size ≤ k := hk; have h2 := GSP.out; have h3 := GLgr.out; have h4 := GS.out; have h5 := HB12.out.size; omega) _) (fun k hk e => by have h1 : wP.heap.size ≤ k := hk; have h2 := GSP.out; have h3 := GLgr.out; have h4 := GS.out; have h5 := HB12.out.size; omega) _) (fun k hk e => by have h1 : wP.heap.size ≤ k := hk; have h2 := GSP.out; have h3 := GLgr.out; have h4 := GS.out; have h5 := HB12.out.size; omega) _) (fun k hk e => by have h1 : wP.heap.size ≤ k := hk; have h2 := GSP.out; have h3 := GLgr.out; have h4 := GS.out; have h5 := HB12.out.size; omega) _))
end Go.Proofs.Ytmgmdnmfalepkaa.Bld
