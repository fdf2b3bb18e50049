/- Parts of the proof (see the row's own text): Build, SegOk, Encode. -/
import Derived.Test.YtmgmdnmfalepkaaG11
import Derived.Test.YtmgmdnmfalepkaaG15
import Derived.Test.YtmgmdnmfalepkaaG7
import Derived.Maps.GroupsBeside
import Derived.Test.YtmgmdnmfalepkaaG13
import Derived.Deep.QuietTactic
import Derived.BigQuiet
namespace Go.Proofs.Ytmgmdnmfalepkaa.Build
open Go Go.ChangeMaps Go.RowKit Go.Maps Go.Proofs.YtmgmdnmfalepkaaW.PrintWords Go.Proofs.YtmgmdnmfalepkaaW.PrintMore Go.Proofs.Ytmgmdnmfalepkaa.Kit Go.Proofs.Ytmgmdnmfalepkaa.PKit Go.Proofs.Ytmgmdnmfalepkaa.Ty Go.Proofs.Ytmgmdnmfalepkaa.HelpBB Go.Proofs.Ytmgmdnmfalepkaa.PTri Go.Proofs.Ytmgmdnmfalepkaa.PSeg Go.Proofs.Ytmgmdnmfalepkaa.MapG Go.Proofs.Ytmgmdnmfalepkaa.HelpSeg
set_option linter.unusedVariables false
theorem infoI : (Try.prog.info? 3).map (fun i => (i.zero, i.size, i.bytes)) = some (some (.int .i64 0), 1, 8) := by kernel_rfl
theorem infoII : (Try.prog.info? 22).map (fun i => (i.zero, i.size, i.bytes)) = some (some (.slice none 0 0), 1, 24) := by kernel_rfl
theorem bad_M (w : World) (base : Nat) : tSeg.M w base (fun _ => True) (0, [], [], []) (.agg #[.int .i64 0, .slice none 0 0, .slice none 0 0, .slice none 0 0]) :=
  ⟨[.int .i64 0, .slice none 0 0, .slice none 0 0, .slice none 0 0], rfl, tys.M_mono (fun _ _ => trivial) (Tys.cons_apart (a := Ty.sc (Value.int .i64)) (ok1 := fun _ => False) rfl (Tys.cons_apart (a := HelpBB.tBB) (ok1 := fun _ => False) (Kd.S_nil _ _ _ _ _) (Tys.cons_apart (a := HelpI.tI) (ok1 := fun _ => False) (Kd.R_nil _ _ _ _ _) (Tys.M_one (a := HelpII.tII) (ok := fun _ => False) (Kd.S_nil _ _ _ _ _)) (fun _ _ h => h)) (fun _ _ h => h)) (fun _ _ h => h))⟩
theorem build_bad {b : Int} {ls : List (List Int)} (h : fits b ls = false) : build b ls = ((0, [], [], []), 4) := by
  unfold build
  rw [h]
  rfl
theorem fits_b {b : Int} {ls : List (List Int)} (h : ¬ (0 ≤ b ∧ b ≤ 1000 ∧ 1 ≤ ls.length ∧ b + (ls.length : Int) ≤ 1000 ∧ plain ls = true ∧ totalB ls ≤ 20000)) : fits b ls = false := by
  cases hf : fits b ls with
  | false => rfl
  | true =>
    refine absurd ?_ h
    unfold fits at hf
    simp only [Bool.and_eq_true, decide_eq_true_eq] at hf
    obtain ⟨⟨⟨⟨⟨h1, h2⟩, h3⟩, h4⟩, h5⟩, h6⟩ := hf
    exact ⟨h1, h2, h3, h4, h5, h6⟩
theorem build_good {b : Int} {ls : List (List Int)} (h : 0 ≤ b ∧ b ≤ 1000 ∧ 1 ≤ ls.length ∧ b + (ls.length : Int) ≤ 1000 ∧ plain ls = true ∧ totalB ls ≤ 20000) : build b ls = (seg b ls, 0) := by
  unfold build
  have : fits b ls = true := by
    unfold fits
    simp only [Bool.and_eq_true, decide_eq_true_eq]
    exact ⟨⟨⟨⟨⟨h.1, h.2.1⟩, h.2.2.1⟩, h.2.2.2.1⟩, h.2.2.2.2.1⟩, h.2.2.2.2.2⟩
  rw [this]
  rfl
theorem plain_at {ls : List (List Int)} {i : Nat} (hi : i < ls.length) (h : 10 ∈ ls.getD i []) : plain ls = false := by
  cases hp : plain ls with
  | false => rfl
  | true =>
    have h2 := List.all_eq_true.1 hp (ls.getD i []) (by
      have e : ls.getD i [] = ls[i] := by simp [List.getD, List.getElem?_eq_getElem hi]
      rw [e]
      exact List.getElem_mem hi)
    exact absurd h (of_decide_eq_true h2)
def upTo (b : Int) (ls : List (List Int)) (i j : Nat) (k : Int) : List Int := post b ls i k ++ (if k ∈ (ord (tris (ls.getD i []))).take j then [b + (i : Int)] else [])
theorem upTo_zero (b : Int) (ls : List (List Int)) (i : Nat) (k : Int) : post b ls i k = upTo b ls i 0 k := by simp [upTo]
theorem upTo_full (b : Int) (ls : List (List Int)) (i : Nat) (k : Int) : upTo b ls i (ord (tris (ls.getD i []))).length k = post b ls (i + 1) k := by
  unfold upTo
  rw [post_succ, List.take_length]
  congr 1
  by_cases h : k ∈ tris (ls.getD i [])
  · rw [if_pos ((mem_ord _ _).2 h), if_pos (show hasT ls k i = true from decide_eq_true h)]
  · rw [if_neg (fun hm => h ((mem_ord _ _).1 hm)), if_neg (by unfold hasT; rw [decide_eq_false h]; simp)]
theorem not_take {T : List Int} (h : Asc T) {j : Nat} (hj : j < T.length) : T[j] ∉ T.take j := by
  intro hm
  obtain ⟨i, hi, e⟩ := List.getElem_of_mem hm
  rw [List.length_take] at hi
  rw [List.getElem_take] at e
  have := asc_get h (show i < j by omega) hj
  omega
theorem upTo_same (b : Int) (ls : List (List Int)) (i j : Nat) (hj : j < (ord (tris (ls.getD i []))).length) :
    upTo b ls i j (ord (tris (ls.getD i [])))[j] = post b ls i (ord (tris (ls.getD i [])))[j] ∧ upTo b ls i (j + 1) (ord (tris (ls.getD i [])))[j] = post b ls i (ord (tris (ls.getD i [])))[j] ++ [b + (i : Int)] := by
  constructor
  · unfold upTo
    rw [if_neg (not_take (asc_ord _) hj), List.append_nil]
  · unfold upTo
    rw [if_pos (by rw [List.take_succ_eq_append_getElem hj]; exact List.mem_append.2 (.inr (List.mem_singleton.2 rfl)))]
theorem upTo_other (b : Int) (ls : List (List Int)) (i j : Nat) (hj : j < (ord (tris (ls.getD i []))).length) (k : Int) (hk : k ≠ (ord (tris (ls.getD i [])))[j]) : upTo b ls i (j + 1) k = upTo b ls i j k := by
  unfold upTo
  rw [List.take_succ_eq_append_getElem hj]
  simp only [List.mem_append, List.mem_singleton, hk, or_false]
theorem post_nil (b : Int) (ls : List (List Int)) (k : Int) : post b ls 0 k = [] := rfl
theorem post_ne (b : Int) (ls : List (List Int)) (k : Int) : post b ls ls.length k ≠ [] ↔ k ∈ ls.flatMap tris := by
  unfold post
  constructor
  · intro h
    rcases hx : (List.range ls.length).filter (hasT ls k) with _ | ⟨i, r⟩
    · rw [hx] at h
      exact absurd rfl h
    · have hm : i ∈ (List.range ls.length).filter (hasT ls k) := by rw [hx]; exact List.mem_cons_self ..
      obtain ⟨h1, h2⟩ := List.mem_filter.1 hm
      have hi : i < ls.length := List.mem_range.1 h1
      have h3 : k ∈ tris (ls.getD i []) := of_decide_eq_true h2
      have e : ls.getD i [] = ls[i] := by simp [List.getD, List.getElem?_eq_getElem hi]
      rw [e] at h3
      exact List.mem_flatMap.2 ⟨ls[i], List.getElem_mem hi, h3⟩
  · intro h e
    obtain ⟨l, hl, hk⟩ := List.mem_flatMap.1 h
    obtain ⟨i, hi, rfl⟩ := List.getElem_of_mem hl
    have hm : i ∈ (List.range ls.length).filter (hasT ls k) := List.mem_filter.2 ⟨List.mem_range.2 hi, decide_eq_true (by
      have e : ls.getD i [] = ls[i] := by simp [List.getD, List.getElem?_eq_getElem hi]
      rw [e]
      exact hk)⟩
    rw [List.map_eq_nil_iff] at e
    rw [e] at hm
    cases hm
theorem ownsMap_below {w W : World} {base b n : Nat} {D : DataW Unit} (h : w.ownsGroups Try.prog 3 base 3 .i64 b n D) (hb : W.heap[b]? = w.heap[b]?) : W.ownsMap Try.prog 3 (rowElem w base 3 .i64) b n D := by
  obtain ⟨es, clock, h1, F, hs, rfl, _⟩ := h
  exact ⟨es, clock, hb.trans h1, F, hs, rfl⟩
theorem groups_lt {w : World} {base b n : Nat} {D : DataW Unit} (h : w.ownsGroups Try.prog 3 base 3 .i64 b n D) : b < w.heap.size := by
  obtain ⟨es, clock, h1, _⟩ := h
  exact (Array.getElem?_eq_some_iff.1 h1).1
def okP (Ent : Value → Value → Prop) (K : List Int) (lo hi top q : Nat) : Nat → Prop := fun k => (lo < k ∧ k < hi ∧ ∃ j, j < q ∧ ∃ v, Ent (.int .i64 (K.getD j 0)) v ∧ some k = v.ownBlock) ∨ top ≤ k
theorem wpList_lookup_run {P : Program} (w : World) {ops : Array Oper} {rest : List Oper} {o : Oper} {a : Act} {Q : Exit → Act → World → Prop} (hg : o.guard = none) (m x : Operand) (t : TypeId) (hop : o.op = Op.lookup t m x false)
    {mv key v : Value} (hm : a.eval m = mv) (hx : a.eval x = key) (hrun : (Instr.lookup t mv key false).run P w = .ok v w) (hK : wpList P ops Q rest (a.put o.dst v) w) : wpList P ops Q (o :: rest) a w := by
  refine wpList_plain hg fun K' hK' => ?_
  unfold Oper.wp
  simp [execOp, hop, hm, hx, hrun, Result.andThen]
  exact hK' _ _ hK
theorem groups_below {w W : World} {base b n : Nat} {D : DataW Unit} (h : w.ownsGroups Try.prog 3 base 3 .i64 b n D) (hB : Below w.heap.size w W) : W.ownsGroups Try.prog 3 base 3 .i64 b n D :=
  h.kept (row := none) ⟨hB.os, hB.tape, hB.output, hB.size, fun k hk _ => hB.block k hk⟩ (by simp) (fun es clock hb x hx => by
    cases x.val.ownBlock with
    | none => exact .inl rfl
    | some g => exact .inr (by simp))
set_option maxRecDepth 100000 in
set_option maxHeartbeats 2000000 in
theorem build_calls (b : Int) (A : Option Addr) (c : Nat) (ls : List (List Int)) (w : World) (hr : Kd.C kB w A ls.length ls) (hc : ls.length ≤ c) (hb : Bytes ls) (hs : smallBB ls) :
    Calls Try.prog 40 #[.int .i64 b, .slice A ls.length c] w fun e w' => ∃ v, e = .returned (.tuple #[v, .int .i64 (build b ls).2]) ∧ tSeg.M w' w.heap.size (fun _ => True) (build b ls).1 v ∧ Grew w w' := by
  have huI := Try.underlying50
  have hs' : ls.length + totalB ls ≤ 1048576 := hs
  have HR := Aside0.mk hr
  have HC := Aside0.mk hc
  have HY := Aside0.mk hb
  clear hr hc hb
  by_cases c1 : b < 0
  · go_enter Try.func40, Try.ntmps40
    go_wp2_with ((with_reducible refine gate_dst (N := 4) rfl ?_); refine box_event ?hg (N := 4) ?hd (cs := #[.int .i64 0, .slice none 0 0, .slice none 0 0, .slice none 0 0]) (t := 50) ?hr ?_; (case hd => rfl); (case hg => rfl); (case hr => first | (go_simp; done) | (go_simp; rfl)); intro g1 hg w1 hbox hb; have BK1 := Aside0.mk hbox; have GE1 := Aside0.mk (show w.heap.size ≤ g1 from Nat.le_of_eq hg.symm); have GL1 := Aside0.mk (blk_lt hbox); have HB := Aside0.mk hb; clear hbox hb hg; have hcg10 : w1.cell? ⟨g1, 0, none⟩ = some (.int .i64 0) := (blk_cell BK1.out 0).trans rfl; have hfg10 := blk_frozen BK1.out 0; have hcg11 : w1.cell? ⟨g1, 1, none⟩ = some (.slice none 0 0) := (blk_cell BK1.out 1).trans rfl; have hfg11 := blk_frozen BK1.out 1; have hcg12 : w1.cell? ⟨g1, 2, none⟩ = some (.slice none 0 0) := (blk_cell BK1.out 2).trans rfl; have hfg12 := blk_frozen BK1.out 2; have hcg13 : w1.cell? ⟨g1, 3, none⟩ = some (.slice none 0 0) := (blk_cell BK1.out 3).trans rfl; have hfg13 := blk_frozen BK1.out 3)
    refine bodyPost_ret (results_ct rfl _ _ g1 50 #[.int .i64 0, .slice none 0 0, .slice none 0 0, .slice none 0 0] (0, 0) _ rfl (by (with_reducible repeat (first | refine blk_drewN ?_ _ | refine blk_drew ?_ | refine blk_alloc ?_ _)); refine blk_put (cs := #[.int .i64 0, .slice none 0 0, .slice none 0 0, .slice none 0 0]) ?_ 3 _ rfl; (with_reducible repeat (first | refine blk_drewN ?_ _ | refine blk_drew ?_ | refine blk_alloc ?_ _)); refine blk_put (cs := #[.int .i64 0, .slice none 0 0, .slice none 0 0, .slice none 0 0]) ?_ 2 _ rfl; (with_reducible repeat (first | refine blk_drewN ?_ _ | refine blk_drew ?_ | refine blk_alloc ?_ _)); refine blk_put (cs := #[.int .i64 0, .slice none 0 0, .slice none 0 0, .slice none 0 0]) ?_ 1 _ rfl; (with_reducible repeat (first | refine blk_drewN ?_ _ | refine blk_drew ?_ | refine blk_alloc ?_ _)); refine blk_put (cs := #[.int .i64 0, .slice none 0 0, .slice none 0 0, .slice none 0 0]) ?_ 0 _ rfl; (with_reducible repeat (first | refine blk_drewN ?_ _ | refine blk_drew ?_ | refine blk_alloc ?_ _)); exact BK1.out) Try.underlying50 rfl (by kernel_rfl)) rfl ?_
    rw [build_bad (fits_b (by omega))]
    exact ⟨_, rfl, bad_M _ _, below_set (below_set (below_set (below_set (HB.out) GE1.out) GE1.out) GE1.out) GE1.out⟩
  by_cases c2 : b > 1000
  · go_enter Try.func40, Try.ntmps40
    go_wp2_with ((with_reducible refine gate_dst (N := 4) rfl ?_); refine box_event ?hg (N := 4) ?hd (cs := #[.int .i64 0, .slice none 0 0, .slice none 0 0, .slice none 0 0]) (t := 50) ?hr ?_; (case hd => rfl); (case hg => rfl); (case hr => first | (go_simp; done) | (go_simp; rfl)); intro g1 hg w1 hbox hb; have BK1 := Aside0.mk hbox; have GE1 := Aside0.mk (show w.heap.size ≤ g1 from Nat.le_of_eq hg.symm); have GL1 := Aside0.mk (blk_lt hbox); have HB := Aside0.mk hb; clear hbox hb hg; have hcg10 : w1.cell? ⟨g1, 0, none⟩ = some (.int .i64 0) := (blk_cell BK1.out 0).trans rfl; have hfg10 := blk_frozen BK1.out 0; have hcg11 : w1.cell? ⟨g1, 1, none⟩ = some (.slice none 0 0) := (blk_cell BK1.out 1).trans rfl; have hfg11 := blk_frozen BK1.out 1; have hcg12 : w1.cell? ⟨g1, 2, none⟩ = some (.slice none 0 0) := (blk_cell BK1.out 2).trans rfl; have hfg12 := blk_frozen BK1.out 2; have hcg13 : w1.cell? ⟨g1, 3, none⟩ = some (.slice none 0 0) := (blk_cell BK1.out 3).trans rfl; have hfg13 := blk_frozen BK1.out 3)
    refine bodyPost_ret (results_ct rfl _ _ g1 50 #[.int .i64 0, .slice none 0 0, .slice none 0 0, .slice none 0 0] (0, 0) _ rfl (by (with_reducible repeat (first | refine blk_drewN ?_ _ | refine blk_drew ?_ | refine blk_alloc ?_ _)); refine blk_put (cs := #[.int .i64 0, .slice none 0 0, .slice none 0 0, .slice none 0 0]) ?_ 3 _ rfl; (with_reducible repeat (first | refine blk_drewN ?_ _ | refine blk_drew ?_ | refine blk_alloc ?_ _)); refine blk_put (cs := #[.int .i64 0, .slice none 0 0, .slice none 0 0, .slice none 0 0]) ?_ 2 _ rfl; (with_reducible repeat (first | refine blk_drewN ?_ _ | refine blk_drew ?_ | refine blk_alloc ?_ _)); refine blk_put (cs := #[.int .i64 0, .slice none 0 0, .slice none 0 0, .slice none 0 0]) ?_ 1 _ rfl; (with_reducible repeat (first | refine blk_drewN ?_ _ | refine blk_drew ?_ | refine blk_alloc ?_ _)); refine blk_put (cs := #[.int .i64 0, .slice none 0 0, .slice none 0 0, .slice none 0 0]) ?_ 0 _ rfl; (with_reducible repeat (first | refine blk_drewN ?_ _ | refine blk_drew ?_ | refine blk_alloc ?_ _)); exact BK1.out) Try.underlying50 rfl (by kernel_rfl)) rfl ?_
    rw [build_bad (fits_b (by omega))]
    exact ⟨_, rfl, bad_M _ _, below_set (below_set (below_set (below_set (HB.out) GE1.out) GE1.out) GE1.out) GE1.out⟩
  by_cases c3 : (ls.length : Int) < 1
  · go_enter Try.func40, Try.ntmps40
    go_wp2_with ((with_reducible refine gate_dst (N := 4) rfl ?_); refine box_event ?hg (N := 4) ?hd (cs := #[.int .i64 0, .slice none 0 0, .slice none 0 0, .slice none 0 0]) (t := 50) ?hr ?_; (case hd => rfl); (case hg => rfl); (case hr => first | (go_simp; done) | (go_simp; rfl)); intro g1 hg w1 hbox hb; have BK1 := Aside0.mk hbox; have GE1 := Aside0.mk (show w.heap.size ≤ g1 from Nat.le_of_eq hg.symm); have GL1 := Aside0.mk (blk_lt hbox); have HB := Aside0.mk hb; clear hbox hb hg; have hcg10 : w1.cell? ⟨g1, 0, none⟩ = some (.int .i64 0) := (blk_cell BK1.out 0).trans rfl; have hfg10 := blk_frozen BK1.out 0; have hcg11 : w1.cell? ⟨g1, 1, none⟩ = some (.slice none 0 0) := (blk_cell BK1.out 1).trans rfl; have hfg11 := blk_frozen BK1.out 1; have hcg12 : w1.cell? ⟨g1, 2, none⟩ = some (.slice none 0 0) := (blk_cell BK1.out 2).trans rfl; have hfg12 := blk_frozen BK1.out 2; have hcg13 : w1.cell? ⟨g1, 3, none⟩ = some (.slice none 0 0) := (blk_cell BK1.out 3).trans rfl; have hfg13 := blk_frozen BK1.out 3)
    refine bodyPost_ret (results_ct rfl _ _ g1 50 #[.int .i64 0, .slice none 0 0, .slice none 0 0, .slice none 0 0] (0, 0) _ rfl (by (with_reducible repeat (first | refine blk_drewN ?_ _ | refine blk_drew ?_ | refine blk_alloc ?_ _)); refine blk_put (cs := #[.int .i64 0, .slice none 0 0, .slice none 0 0, .slice none 0 0]) ?_ 3 _ rfl; (with_reducible repeat (first | refine blk_drewN ?_ _ | refine blk_drew ?_ | refine blk_alloc ?_ _)); refine blk_put (cs := #[.int .i64 0, .slice none 0 0, .slice none 0 0, .slice none 0 0]) ?_ 2 _ rfl; (with_reducible repeat (first | refine blk_drewN ?_ _ | refine blk_drew ?_ | refine blk_alloc ?_ _)); refine blk_put (cs := #[.int .i64 0, .slice none 0 0, .slice none 0 0, .slice none 0 0]) ?_ 1 _ rfl; (with_reducible repeat (first | refine blk_drewN ?_ _ | refine blk_drew ?_ | refine blk_alloc ?_ _)); refine blk_put (cs := #[.int .i64 0, .slice none 0 0, .slice none 0 0, .slice none 0 0]) ?_ 0 _ rfl; (with_reducible repeat (first | refine blk_drewN ?_ _ | refine blk_drew ?_ | refine blk_alloc ?_ _)); exact BK1.out) Try.underlying50 rfl (by kernel_rfl)) rfl ?_
    rw [build_bad (fits_b (by omega))]
    exact ⟨_, rfl, bad_M _ _, below_set (below_set (below_set (below_set (HB.out) GE1.out) GE1.out) GE1.out) GE1.out⟩
  by_cases c4 : b + (ls.length : Int) > 1000
  · go_enter Try.func40, Try.ntmps40
    go_wp2_with ((with_reducible refine gate_dst (N := 4) rfl ?_); refine box_event ?hg (N := 4) ?hd (cs := #[.int .i64 0, .slice none 0 0, .slice none 0 0, .slice none 0 0]) (t := 50) ?hr ?_; (case hd => rfl); (case hg => rfl); (case hr => first | (go_simp; done) | (go_simp; rfl)); intro g1 hg w1 hbox hb; have BK1 := Aside0.mk hbox; have GE1 := Aside0.mk (show w.heap.size ≤ g1 from Nat.le_of_eq hg.symm); have GL1 := Aside0.mk (blk_lt hbox); have HB := Aside0.mk hb; clear hbox hb hg; have hcg10 : w1.cell? ⟨g1, 0, none⟩ = some (.int .i64 0) := (blk_cell BK1.out 0).trans rfl; have hfg10 := blk_frozen BK1.out 0; have hcg11 : w1.cell? ⟨g1, 1, none⟩ = some (.slice none 0 0) := (blk_cell BK1.out 1).trans rfl; have hfg11 := blk_frozen BK1.out 1; have hcg12 : w1.cell? ⟨g1, 2, none⟩ = some (.slice none 0 0) := (blk_cell BK1.out 2).trans rfl; have hfg12 := blk_frozen BK1.out 2; have hcg13 : w1.cell? ⟨g1, 3, none⟩ = some (.slice none 0 0) := (blk_cell BK1.out 3).trans rfl; have hfg13 := blk_frozen BK1.out 3)
    refine bodyPost_ret (results_ct rfl _ _ g1 50 #[.int .i64 0, .slice none 0 0, .slice none 0 0, .slice none 0 0] (0, 0) _ rfl (by (with_reducible repeat (first | refine blk_drewN ?_ _ | refine blk_drew ?_ | refine blk_alloc ?_ _)); refine blk_put (cs := #[.int .i64 0, .slice none 0 0, .slice none 0 0, .slice none 0 0]) ?_ 3 _ rfl; (with_reducible repeat (first | refine blk_drewN ?_ _ | refine blk_drew ?_ | refine blk_alloc ?_ _)); refine blk_put (cs := #[.int .i64 0, .slice none 0 0, .slice none 0 0, .slice none 0 0]) ?_ 2 _ rfl; (with_reducible repeat (first | refine blk_drewN ?_ _ | refine blk_drew ?_ | refine blk_alloc ?_ _)); refine blk_put (cs := #[.int .i64 0, .slice none 0 0, .slice none 0 0, .slice none 0 0]) ?_ 1 _ rfl; (with_reducible repeat (first | refine blk_drewN ?_ _ | refine blk_drew ?_ | refine blk_alloc ?_ _)); refine blk_put (cs := #[.int .i64 0, .slice none 0 0, .slice none 0 0, .slice none 0 0]) ?_ 0 _ rfl; (with_reducible repeat (first | refine blk_drewN ?_ _ | refine blk_drew ?_ | refine blk_alloc ?_ _)); exact BK1.out) Try.underlying50 rfl (by kernel_rfl)) rfl ?_
    rw [build_bad (fits_b (by omega))]
    exact ⟨_, rfl, bad_M _ _, below_set (below_set (below_set (below_set (HB.out) GE1.out) GE1.out) GE1.out) GE1.out⟩
  go_enter Try.func40, Try.ntmps40
  go_wp2_with ((with_reducible refine gate_dst (N := 4) rfl ?_); refine box_event ?hg (N := 4) ?hd (cs := #[.int .i64 0, .slice none 0 0, .slice none 0 0, .slice none 0 0]) (t := 50) ?hr ?_; (case hd => rfl); (case hg => rfl); (case hr => first | (go_simp; done) | (go_simp; rfl)); intro g1 hg w1 hbox hb; have BK1 := Aside0.mk hbox; have GE1 := Aside0.mk (show w.heap.size ≤ g1 from Nat.le_of_eq hg.symm); have GL1 := Aside0.mk (blk_lt hbox); have HB := Aside0.mk hb; clear hbox hb hg; have hcg10 : w1.cell? ⟨g1, 0, none⟩ = some (.int .i64 0) := (blk_cell BK1.out 0).trans rfl; have hfg10 := blk_frozen BK1.out 0; have hcg11 : w1.cell? ⟨g1, 1, none⟩ = some (.slice none 0 0) := (blk_cell BK1.out 1).trans rfl; have hfg11 := blk_frozen BK1.out 1; have hcg12 : w1.cell? ⟨g1, 2, none⟩ = some (.slice none 0 0) := (blk_cell BK1.out 2).trans rfl; have hfg12 := blk_frozen BK1.out 2; have hcg13 : w1.cell? ⟨g1, 3, none⟩ = some (.slice none 0 0) := (blk_cell BK1.out 3).trans rfl; have hfg13 := blk_frozen BK1.out 3)
  go_loopg [37] ls.length (fun gg s37 wr => ∃ i : Nat, i ≤ ls.length ∧ ls.length - i ≤ gg ∧ s37 = .int .i64 i ∧ w1 = wr ∧ Aside0 (plain (ls.take i) = true))
  case atStart => exact ⟨0, by omega, by omega, rfl, rfl, ⟨rfl⟩⟩
  case round =>
    obtain ⟨i, hi, hg, rfl, rfl, HP⟩ := hrel
    by_cases hlt : i < ls.length
    · have hltz : (i : Int) < (ls.length : Int) := by omega
      obtain ⟨ad, u, rfl, hcell0, hK⟩ := get_one (d := kB) rfl HR.out [] i hlt
      obtain ⟨A', c', e', hc', hr'⟩ := hK
      obtain rfl : u = .slice A' (ls.getD i []).length c' := by injection e'
      have hcell : w1.cell? (ad.add i) = some (.slice A' (ls.getD i []).length c') := (HB.out.cell (World.block_lt_of_cell? w _ hcell0)).trans hcell0
      have HL := Aside0.mk (Kd.C_below hr' HB.out)
      have HLB := Aside0.mk (getD_bytes HY.out i)
      have hbad : 10 ∈ ls.getD i [] → plain ls = false := plain_at hlt
      have hpl : 10 ∉ ls.getD i [] → plain (ls.take (i + 1)) = true := fun h => by
        rw [take_snoc ls i hlt]
        have := HP.out
        unfold plain at this ⊢
        rw [List.all_append, this]
        simp only [List.all_cons, List.all_nil, Bool.and_true, Bool.true_and]
        exact decide_eq_true h
      have HBD := Aside0.mk hbad
      have HPL := Aside0.mk hpl
      clear hr' e' hcell0 hbad hpl
      generalize hx : ls.getD i [] = l at hcell HL HLB HBD HPL hc'
      clear hx
      have hone := one_calls A' c' l w1 HL.out hc' HLB.out
      by_cases h10 : 10 ∈ l
      · rw [decide_eq_false (fun h => h h10)] at hone
        go_wp2_with (go_at_call 93; refine hone.mono ?_; rintro e w' ⟨rfl, hw_⟩; subst w')
        refine bodyPost_ret (results_ct rfl _ _ g1 50 #[.int .i64 0, .slice none 0 0, .slice none 0 0, .slice none 0 0] (0, 0) _ rfl (by (with_reducible repeat (first | refine blk_drewN ?_ _ | refine blk_drew ?_ | refine blk_alloc ?_ _)); refine blk_put (cs := #[.int .i64 0, .slice none 0 0, .slice none 0 0, .slice none 0 0]) ?_ 3 _ rfl; (with_reducible repeat (first | refine blk_drewN ?_ _ | refine blk_drew ?_ | refine blk_alloc ?_ _)); refine blk_put (cs := #[.int .i64 0, .slice none 0 0, .slice none 0 0, .slice none 0 0]) ?_ 2 _ rfl; (with_reducible repeat (first | refine blk_drewN ?_ _ | refine blk_drew ?_ | refine blk_alloc ?_ _)); refine blk_put (cs := #[.int .i64 0, .slice none 0 0, .slice none 0 0, .slice none 0 0]) ?_ 1 _ rfl; (with_reducible repeat (first | refine blk_drewN ?_ _ | refine blk_drew ?_ | refine blk_alloc ?_ _)); refine blk_put (cs := #[.int .i64 0, .slice none 0 0, .slice none 0 0, .slice none 0 0]) ?_ 0 _ rfl; (with_reducible repeat (first | refine blk_drewN ?_ _ | refine blk_drew ?_ | refine blk_alloc ?_ _)); exact BK1.out) Try.underlying50 rfl (by kernel_rfl)) rfl ?_
        rw [build_bad (fits_b (by rw [HBD.out h10]; simp))]
        exact ⟨_, rfl, bad_M _ _, below_set (below_set (below_set (below_set (HB.out) GE1.out) GE1.out) GE1.out) GE1.out⟩
      · rw [decide_eq_true h10] at hone
        go_wp2_with (go_at_call 93; refine hone.mono ?_; rintro e w' ⟨rfl, hw_⟩; subst w')
        go_roundg (ls.length - (i + 1))
        case measure => omega
        case rel => exact ⟨i + 1, by omega, by omega, by go_num, rfl, ⟨HPL.out h10⟩⟩
    · have hltz : ¬ (i : Int) < (ls.length : Int) := by omega
      obtain rfl : i = ls.length := by omega
      have hp := HP.out
      rw [List.take_length] at hp
      have HPP := Aside0.mk hp
      clear hp HP
      have htot := total_calls A c ls w1 (Kd.C_below HR.out HB.out) HC.out hs
      by_cases c5 : (totalB ls : Int) > 20000
      · go_wp2_with (go_at_call 94; refine htot.mono ?_; rintro e w' ⟨rfl, hw_⟩; subst w')
        refine bodyPost_ret (results_ct rfl _ _ g1 50 #[.int .i64 0, .slice none 0 0, .slice none 0 0, .slice none 0 0] (0, 0) _ rfl (by (with_reducible repeat (first | refine blk_drewN ?_ _ | refine blk_drew ?_ | refine blk_alloc ?_ _)); refine blk_put (cs := #[.int .i64 0, .slice none 0 0, .slice none 0 0, .slice none 0 0]) ?_ 3 _ rfl; (with_reducible repeat (first | refine blk_drewN ?_ _ | refine blk_drew ?_ | refine blk_alloc ?_ _)); refine blk_put (cs := #[.int .i64 0, .slice none 0 0, .slice none 0 0, .slice none 0 0]) ?_ 2 _ rfl; (with_reducible repeat (first | refine blk_drewN ?_ _ | refine blk_drew ?_ | refine blk_alloc ?_ _)); refine blk_put (cs := #[.int .i64 0, .slice none 0 0, .slice none 0 0, .slice none 0 0]) ?_ 1 _ rfl; (with_reducible repeat (first | refine blk_drewN ?_ _ | refine blk_drew ?_ | refine blk_alloc ?_ _)); refine blk_put (cs := #[.int .i64 0, .slice none 0 0, .slice none 0 0, .slice none 0 0]) ?_ 0 _ rfl; (with_reducible repeat (first | refine blk_drewN ?_ _ | refine blk_drew ?_ | refine blk_alloc ?_ _)); exact BK1.out) Try.underlying50 rfl (by kernel_rfl)) rfl ?_
        rw [build_bad (fits_b (by omega))]
        exact ⟨_, rfl, bad_M _ _, below_set (below_set (below_set (below_set (HB.out) GE1.out) GE1.out) GE1.out) GE1.out⟩
      have HG := Aside0.mk (show 0 ≤ b ∧ b ≤ 1000 ∧ 1 ≤ ls.length ∧ b + (ls.length : Int) ≤ 1000 ∧ plain ls = true ∧ totalB ls ≤ 20000 from ⟨by omega, by omega, by omega, by omega, HPP.out, by omega⟩)
      have hmm := @run_makeMap Try.prog
      have hW := World.ownsGroups_made (H := Unit) w1 Try.prog 3 3 .i64
      go_wp2_with (go_at_call 94; refine htot.mono ?_; rintro e w' ⟨rfl, hw_⟩; subst w')
      obtain ⟨i0, hi0, hz0, hz1, hz2⟩ := info_parts infoI
      have hb0 := HG.out.1
      have hb1 := HG.out.2.1
      have hb2 := HG.out.2.2.2.1
      have htl := HG.out.2.2.2.2.2
      go_loopg [53] ls.length (fun gg s53 wr => ∃ i : Nat, i ≤ ls.length ∧ ls.length - i ≤ gg ∧ s53 = .int .i64 i ∧ Aside0 (∃ D n, wr.ownsGroups Try.prog 3 (w1.heap.size + 1) 3 .i64 w1.heap.size n D ∧ Grp (post b ls i) D ∧ n ≤ totalB (ls.take i)) ∧ Aside0 (Below w1.heap.size w1 wr))
      case atStart => exact ⟨0, by omega, by omega, rfl, ⟨⟨_, 0, hW, Grp.start.congr (fun k => (post_nil b ls k).symm), Nat.zero_le _⟩⟩, ⟨below_alloc (Below.refl _ _) _⟩⟩
      case round =>
        rename World => wo
        obtain ⟨i, hi, hg, rfl, HD, HB1⟩ := hrel
        obtain ⟨D, n, hown, hD, hn⟩ := HD.out
        have HO := Aside0.mk hown
        have HF := Aside0.mk hD
        have HN := Aside0.mk hn
        clear HD hown hD hn
        by_cases hlt : i < ls.length
        · have hltz : (i : Int) < (ls.length : Int) := by omega
          have HBW := Aside0.mk (below_then HB.out HB.out.size HB1.out)
          obtain ⟨ad, u, rfl, hcell0, hK⟩ := get_one (d := kB) rfl HR.out [] i hlt
          obtain ⟨A', c', e', hc', hr'⟩ := hK
          obtain rfl : u = .slice A' (ls.getD i []).length c' := by injection e'
          have hcell : wo.cell? (ad.add i) = some (.slice A' (ls.getD i []).length c') := (HBW.out.cell (World.block_lt_of_cell? w _ hcell0)).trans hcell0
          have HL := Aside0.mk (Kd.C_below hr' HBW.out)
          have HLB := Aside0.mk (getD_bytes HY.out i)
          have HLN := Aside0.mk (getD_len ls i)
          have HTD := Aside0.mk (total_drop ls i hlt)
          have HTT := Aside0.mk (total_take ls (i + 1))
          clear hr' e' hcell0
          generalize hx : ls.getD i [] = l at hcell HL HLB HLN HTD hc'
          have HX := Aside0.mk hx
          clear hx
          have htri := Tri.tri_calls A' c' l wo HL.out hc' HLB.out (by have := HLN.out; omega)
          have hTl : (ord (tris l)).length ≤ l.length := by have h1 := ord_len (tris l); have h2 := tris_length l; omega
          have HTA := Aside0.mk (asc_ord (tris l))
          have HTB := Aside0.mk (show ∀ x ∈ ord (tris l), 0 ≤ x ∧ x ≤ 16777215 from fun x hx => tris_bd l HLB.out x ((mem_ord _ _).1 hx))
          generalize hT : ord (tris l) = T at htri hTl HTA HTB
          have HT := Aside0.mk hT
          clear hT
          go_wp2_with (go_at_call 21; refine htri.mono ?_; rintro e w2 ⟨vt, rfl, hRt, hgt⟩; obtain ⟨At, ct, rfl⟩ := Kd.R_slice hRt)
          have HW2 := Aside0.mk hgt
          have hsz1 : w1.heap.size < wo.heap.size := groups_lt HO.out
          have hsh0 : wo.Shuns w1.heap.size (fun g => some g = (Value.slice At T.length ct).ownBlock) := World.Shuns.reno (No := fun _ => False) (fun _ _ _ _ _ _ _ h => h) HO.out (fun g hg => .inr (Kd.R_base hRt g hg.symm))
          have hsh1 : w2.Shuns w1.heap.size (fun g => some g = (Value.slice At T.length ct).ownBlock) := hsh0.kept (row := none) ⟨hgt.os, hgt.tape, hgt.output, hgt.size, fun k hk _ => hgt.block k hk⟩ hsz1 (by simp)
          go_loopg [61] T.length (fun gg s61 wi => ∃ j : Nat, j ≤ T.length ∧ T.length - j ≤ gg ∧ s61 = .int .i64 j ∧ Aside0 (∃ D n, wi.ownsGroups Try.prog 3 (w1.heap.size + 1) 3 .i64 w1.heap.size n D ∧ Grp (upTo b ls i j) D ∧ n ≤ totalB (ls.take i) + j ∧ wi.Shuns w1.heap.size (fun g => some g = (Value.slice At T.length ct).ownBlock)) ∧ Aside0 (wi.ownsRow wo.heap.size 3 1 (.slice At T.length ct) T.length (T.map (Value.int .i64))) ∧ Aside0 (Below w1.heap.size w1 wi))
          case atStart => exact ⟨0, by omega, by omega, rfl, ⟨⟨D, n, groups_below HO.out hgt, HF.out.congr (fun k => upTo_zero b ls i k), by have := HN.out; omega, hsh1⟩⟩, ⟨Kd.own_of_R hRt⟩, ⟨below_then HB1.out HB1.out.size hgt⟩⟩
          case round =>
            rename World => wi
            clear hsh0 hsh1 hRt hgt
            obtain ⟨j, hj, hgj, rfl, HD2, HRW, HB2⟩ := hrel
            obtain ⟨D2, n2, hown, hD, hn, hsh⟩ := HD2.out
            have HO2 := Aside0.mk hown
            have HF2 := Aside0.mk hD
            have HN2 := Aside0.mk hn
            have HS2 := Aside0.mk hsh
            clear HD2 hown hD hn hsh
            have hsz2 : w1.heap.size < wi.heap.size := groups_lt HO2.out
            by_cases hlj : j < T.length
            · have hljz : (j : Int) < (T.length : Int) := by omega
              have hrow := HRW.out
              rcases hrow.2 with ⟨_, h0⟩ | ⟨gt, cap, cur, hv, hgt1, hgt2, _⟩
              · omega
              obtain ⟨rfl, rfl⟩ : At = some ⟨gt, 0, none⟩ ∧ ct = cap := by injection hv with h1 h2 h3; exact ⟨h1, h3⟩
              have hglt : gt < wi.heap.size := (Array.getElem?_eq_some_iff.1 hgt2).1
              have hcj : wi.cell? ⟨gt, j, none⟩ = some (.int .i64 T[j]) := by have h1 := hrow.cells (g := gt) rfl j (.int .i64 T[j]) (by simp [List.getElem?_eq_getElem hlj]); rwa [show (⟨gt, 0, none⟩ : Addr).add j = ⟨gt, j, none⟩ from by unfold Addr.add; split <;> simp_all] at h1
              have htb := HTB.out T[j] (List.getElem_mem hlj)
              obtain ⟨s1, s2⟩ := upTo_same b ls i j (by rw [HX.out, HT.out]; exact hlj)
              have s3 := upTo_other b ls i j (by rw [HX.out, HT.out]; exact hlj)
              simp only [HX.out, HT.out] at s1 s2 s3
              generalize ht : T[j] = t at hcj htb s1 s2 s3
              have SS := Aside0.mk (And.intro s1 (And.intro s2 s3))
              clear s1 s2 s3 hv hrow
              have hTz : T.length ≤ 1048576 := by have := HLN.out; omega
              have hnm : n2 < maxLen := by have h1 := HN2.out; have h2 := HTT.out; have h3 := HTD.out; unfold maxLen; omega
              have hn40 : n2 ≤ 40000 := by have h1 := HN2.out; have h2 := HTT.out; have h3 := HTD.out; omega
              go_wp2_with (first | (at_lookup; refine wpList_lookup_groups_shuns _ rfl _ _ 104 rfl 3 22 3 .i64 keyedI Try.underlying104 (zeroR _) (w1.heap.size + 1) w1.heap.size n2 D2 rfl HO2.out hnm (.int .i64 t) (.int .i64 t) rfl (keyI t (by omega)) ?_; intro u zs hat hoi hzl hback hsh) | (at_builtin; refine wpList_append_own_at _ rfl _ _ 22 rfl (w1.heap.size + 1) 3 i0 (.int .i64 0) 1 8 Try.underlying22 hi0 hz0 hz1 hz2 rfl (by decide) u zs.length (zs.map (Value.int .i64)) rfl (hoi.1.alloc _) ⟨wi.heap.size, 0, none⟩ 1 1 [.int .i64 (b + (i : Int))] rfl rfl (cell_one_new _ _ _) (by simp [Value.oneCell']) (by unfold maxLen; omega) (by omega) (by simp; omega) ?_; intro v' w3 hown' hgrow hnil' hat') | (at_mapUpdate; have hgr' := (World.grownBy_alloc wi (.cells #[.int .i64 (b + (i : Int))] 3) u.ownBlock).trans hgrow; have hoi' := (hoi.alloc (.cells #[.int .i64 (b + (i : Int))] 3)).appended hown' (WalkArith.wf_i64 (by omega)); have hlen' : (zs ++ [b + (i : Int)]).length ≤ n2 + 1 := (by rw [List.length_append, List.length_singleton]; omega); have hno' : ∀ g, v'.ownBlock = some g → ¬ some g = (Value.slice (some ⟨gt, 0, none⟩) T.length ct).ownBlock := (fun g hg hN => by rcases hat' with h | h; (exact hsh _ HS2.out g (h ▸ hg) hN); (rw [h] at hg; have e1 : g = gt := (by simpa [Value.ownBlock] using hN); simp at hg; omega)); have hloc' : v'.ownBlock = u.ownBlock ∨ ∃ g, v'.ownBlock = some g ∧ wi.heap.size ≤ g := hat'.imp id (fun h => ⟨_, h, by simp⟩); refine wpList_mapUpdate_back_shuns _ rfl _ _ _ 104 rfl keyedI Try.underlying104 (keyI t (by omega)) HO2.out hnm hoi HS2.out hno' hback rfl rfl rfl hgr' hoi' hlen' hloc' ?_; intro w4 hown4 hgrow4 hsh4))
              have hz : zs = upTo b ls i j t := dat_inj hoi ((HF2.out.at_ t).symm.trans hat)
              have hgt0 : ∀ g, u.ownBlock = some g → g ≠ gt := fun g hg e => hsh _ HS2.out g hg (by rw [e]; rfl)
              go_roundg (T.length - (j + 1))
              case measure => omega
              case rel =>
                refine ⟨j + 1, by omega, by omega, by go_num, ⟨⟨_, n2 + 1, hown4, HF2.out.put (g := upTo b ls i (j + 1)) ?_ ?_ ?_, by have := HN2.out; omega, hsh4⟩⟩, ⟨?_⟩, ⟨?_⟩⟩
                · rw [hoi'.datum_pos (by simp), SS.out.2.1, hz, SS.out.1, dat_cons (by simp)]
                · rw [SS.out.2.1]; simp
                · exact fun k hk => SS.out.2.2 k hk
                · exact (HRW.out.kept hgr' (.inr (fun e => hgt0 gt (by rw [← e]; rfl) rfl))).kept hgrow4 (.inr (fun e => by simp [Value.ownBlock] at e; omega))
                · exact RowKit.Below.groups HB2.out hoi hgr' hgrow4 (by omega) (by omega) (Nat.le_refl _)
            · have hljz : ¬ (j : Int) < (T.length : Int) := by omega
              obtain rfl : j = T.length := by omega
              go_wp2
              go_roundg (ls.length - (i + 1))
              case measure => omega
              case rel =>
                refine ⟨i + 1, by omega, by omega, by go_num, ⟨⟨D2, n2, HO2.out, HF2.out.congr (fun k => ?_), by have h1 := HN2.out; have h2 := HTD.out; omega⟩⟩, ⟨HB2.out⟩⟩
                have h1 := upTo_full b ls i k
                rw [HX.out, HT.out] at h1
                exact h1
        · have hltz : ¬ (i : Int) < (ls.length : Int) := by omega
          obtain rfl : i = ls.length := by omega
          have hsz1 : w1.heap.size < wo.heap.size := groups_lt HO.out
          have HBW := Aside0.mk (below_then HB.out HB.out.size HB1.out)
          obtain ⟨Ent, hE1, hE2⟩ := entries HO.out
          have HE1 := Aside0.mk hE1
          have HE2 := Aside0.mk hE2
          clear hE1 hE2
          have hcopy := copy_calls A c ls wo (Kd.C_below HR.out HBW.out) HC.out hs
          have hKl : (keys ls).length ≤ totalB ls := keys_len ls
          have hsort : ∀ wa : World, Below wo.heap.size wo wa → Calls Try.prog 96 #[.func (.func 139) #[] #[.pointer (some ⟨wa.heap.size, 0, none⟩)]] (wa.alloc (.cells #[.map (some w1.heap.size)] 104)) fun e w' => ∃ v, e = .returned v ∧ Kd.R (Kd.int .i64) 3 w' wa.heap.size (fun _ => True) v (keys ls) ∧ Below wa.heap.size wa w' := fun wa hga => sorted_calls wa (ownsMap_below HO.out (hga.block _ hsz1)) HF.out (post_ne b ls) (by have h1 := HN.out; have h2 := total_take ls ls.length; omega)
          have HKA := Aside0.mk (show Asc (keys ls) from asc_ord _)
          have HKB := Aside0.mk (show ∀ x ∈ keys ls, 0 ≤ x ∧ x ≤ 16777215 from fun x hx => by
            obtain ⟨l, hl, hx2⟩ := List.mem_flatMap.1 ((mem_ord _ _).1 hx)
            exact tris_bd l (fun y hy => HY.out l hl y hy) x hx2)
          have HBG := Aside0.mk (build_good HG.out)
          have HSEG := Aside0.mk (show seg b ls = (b, ls, keys ls, (keys ls).map (post b ls ls.length)) from rfl)
          generalize hK_ : keys ls = K at hKl hsort HKA HKB HSEG
          clear hK_
          go_wp2_with (first | (go_at_call 95; refine hcopy.mono ?_; rintro e wa ⟨v1, rfl, hS1, hga⟩; obtain ⟨A1, c1, rfl⟩ := Kd.S_slice hS1) | (go_at_call 97; refine (keys_calls _ _).mono ?_; rintro e w' ⟨rfl, hw_⟩; subst w') | (go_at_call 96; refine (hsort wa hga).mono ?_; rintro e ws ⟨v2, rfl, hR2, hgs⟩; obtain ⟨A2, c2, rfl⟩ := Kd.R_slice hR2) | ((with_reducible refine gate_dst (N := 13) rfl ?_); refine box_event ?hg (N := 13) ?hd (cs := #[.int .i64 0, .slice none 0 0, .slice none 0 0, .slice none 0 0]) (t := 50) ?hr ?_; (case hd => rfl); (case hg => rfl); (case hr => first | (go_simp; done) | (go_simp; rfl)); intro g2 hg2_ w5 hbox hb5; have HGE := Aside0.mk hg2_; clear hg2_; have BK2 := Aside0.mk hbox; have hcg20 : w5.cell? ⟨g2, 0, none⟩ = some (.int .i64 0) := (blk_cell hbox 0).trans rfl; have hfg20 := blk_frozen hbox 0; have hcg21 : w5.cell? ⟨g2, 1, none⟩ = some (.slice none 0 0) := (blk_cell hbox 1).trans rfl; have hfg21 := blk_frozen hbox 1; have hcg22 : w5.cell? ⟨g2, 2, none⟩ = some (.slice none 0 0) := (blk_cell hbox 2).trans rfl; have hfg22 := blk_frozen hbox 2; have hcg23 : w5.cell? ⟨g2, 3, none⟩ = some (.slice none 0 0) := (blk_cell hbox 3).trans rfl; have hfg23 := blk_frozen hbox 3))
          have hg2a : ws.heap.size ≤ g2 := Nat.le_of_eq HGE.out.symm
          have hg2b : g2 ≤ ws.heap.size := Nat.le_of_eq HGE.out
          have hl5 : ws.heap.size < w5.heap.size := by have h1 := blk_lt BK2.out; omega
          have hlW : w.heap.size ≤ w1.heap.size := HB.out.size
          have hg1 := GL1.out
          have hge1 := GE1.out
          have hlA : wo.heap.size ≤ wa.heap.size := hga.size
          have hlS : wa.heap.size ≤ ws.heap.size := hgs.size
          have HG5 := Aside0.mk (show ∀ k, k < wo.heap.size → w5.heap[k]? = wo.heap[k]? from fun k hk => (hb5.block k (by omega)).trans ((hgs.block k (by omega)).trans (hga.block k hk)))
          have HM1 := Aside0.mk (Kd.S_step (w1 := w5) (Kd.S_bound hS1) (fun k hk _ => (hb5.block k (by have := hk.2.2.1; omega)).trans (hgs.block k hk.2.2.1)))
          have HM2 := Aside0.mk (Kd.R_step (w1 := w5) (Kd.R_bound hR2) (fun k hk _ => hb5.block k hk.2.2.1))
          have HB5 := Aside0.mk (grew_trans (grew_trans (grew_trans HBW.out hga) hgs) hb5)
          have HK1 := Aside0.mk ((HG5.out g1 (by omega)).trans (blk_below BK1.out HB1.out))
          clear hcopy hsort hS1 hR2 hga hgs hb5
          go_loopg [87] K.length (fun gg s87 wr => ∃ (q : Nat) (Ap : Option Addr) (cp : Nat), q ≤ K.length ∧ K.length - q ≤ gg ∧ s87 = .int .i64 q ∧ Aside0 (wr.heap[g2]? = some (.cells #[.int .i64 b, .slice A1 ls.length c1, .slice A2 K.length c2, .slice Ap q cp] 50 (0, 0))) ∧ Aside0 (Kd.S HelpII.kI 22 wr w.heap.size (okP Ent K w1.heap.size wo.heap.size w5.heap.size q) (.slice Ap q cp) ((K.take q).map (post b ls ls.length))) ∧ Aside0 (∀ k, (Value.slice Ap q cp).ownBlock = some k → w5.heap.size ≤ k) ∧ Aside0 (Kept w5 wr (fun k => k = g2)) ∧ Aside0 (Below w.heap.size w wr))
          case atStart =>
            refine ⟨0, none, 0, Nat.zero_le _, Nat.le_refl _, rfl, ⟨?_⟩, ⟨Kd.S_nil _ _ _ _ _⟩, ⟨fun k hk => by simp [Value.ownBlock] at hk⟩, ⟨?_⟩, ⟨?_⟩⟩
            · (with_reducible repeat (first | refine blk_drewN ?_ _ | refine blk_drew ?_ | refine blk_alloc ?_ _)); refine blk_put (cs := #[.int .i64 b, .slice A1 ls.length c1, .slice A2 K.length c2, .slice none 0 0]) ?_ 3 _ rfl; (with_reducible repeat (first | refine blk_drewN ?_ _ | refine blk_drew ?_ | refine blk_alloc ?_ _)); refine blk_put (cs := #[.int .i64 b, .slice A1 ls.length c1, .slice none 0 0, .slice none 0 0]) ?_ 2 _ rfl; (with_reducible repeat (first | refine blk_drewN ?_ _ | refine blk_drew ?_ | refine blk_alloc ?_ _)); refine blk_put (cs := #[.int .i64 b, .slice none 0 0, .slice none 0 0, .slice none 0 0]) ?_ 1 _ rfl; (with_reducible repeat (first | refine blk_drewN ?_ _ | refine blk_drew ?_ | refine blk_alloc ?_ _)); refine blk_put (cs := #[.int .i64 0, .slice none 0 0, .slice none 0 0, .slice none 0 0]) ?_ 0 _ rfl; (with_reducible repeat (first | refine blk_drewN ?_ _ | refine blk_drew ?_ | refine blk_alloc ?_ _)); exact BK2.out
            · refine Kept.setCell (S := fun k => k = g2) ?_ (.inl rfl) _
              refine Kept.setCell (S := fun k => k = g2) ?_ (.inl rfl) _
              refine Kept.setCell (S := fun k => k = g2) ?_ (.inl rfl) _
              refine Kept.setCell (S := fun k => k = g2) ?_ (.inl rfl) _
              exact Kept.refl w5 _
            · have hg5 : w.heap.size ≤ g2 := by omega
              refine below_set ?_ hg5
              refine below_set ?_ hg5
              refine below_set ?_ hg5
              refine below_set ?_ hg5
              exact HB5.out
          case round =>
            rename World => wl
            have hg2a : ws.heap.size ≤ g2 := Nat.le_of_eq HGE.out.symm
            have hg2b : g2 ≤ ws.heap.size := Nat.le_of_eq HGE.out
            obtain ⟨q, Ap, cp, hq, hgq, rfl, HG2, HS, HOB, HKP, HBL⟩ := hrel
            have hl5' := HKP.out.1
            by_cases hlq : q < K.length
            · have hlqz : (q : Int) < (K.length : Int) := by omega
              have hrow5 := Kd.own_of_R HM2.out
              have hrow : wl.ownsRow wa.heap.size 3 1 (.slice A2 K.length c2) K.length (K.map (Value.int .i64)) := own_move hrow5 (fun k hk => HKP.out.2 k ((hrow5.lt k hk).2) (by have h1 := Kd.R_bound HM2.out; have h2 := h1.1 k hk; have h3 := h2.1.2.2.1; omega))
              clear hrow5
              rcases hrow.2 with ⟨_, h0⟩ | ⟨gk, cap, cur, hv, hgk1, hgk2, _⟩
              · omega
              obtain ⟨rfl, rfl⟩ : A2 = some ⟨gk, 0, none⟩ ∧ c2 = cap := by injection hv with h1 h2 h3; exact ⟨h1, h3⟩
              have hcq : wl.cell? ⟨gk, q, none⟩ = some (.int .i64 K[q]) := by have h1 := hrow.cells (g := gk) rfl q (.int .i64 K[q]) (by simp [List.getElem?_eq_getElem hlq]); rwa [show (⟨gk, 0, none⟩ : Addr).add q = ⟨gk, q, none⟩ from by unfold Addr.add; split <;> simp_all] at h1
              clear hrow hv hgk2
              have hkb := HKB.out K[q] (List.getElem_mem hlq)
              obtain ⟨u, zs, hrun, hat, hoi, hent⟩ := HE1.out wl K[q] ((HKP.out.2 _ (by omega) (by omega)).trans (HG5.out _ hsz1)) (by omega)
              have hz : zs = post b ls ls.length K[q] := dat_inj hoi ((HF.out.at_ K[q]).symm.trans hat)
              have hlt : ∀ k, u.ownBlock = some k → w1.heap.size + 1 ≤ k ∧ k < wo.heap.size := fun k hk => hoi.1.lt k hk
              have hru : Kd.R (Kd.int .i64) 3 wl w.heap.size (fun k => some k = u.ownBlock) u zs := Kd.R_lower (Kd.R_of_own (own_move hoi.1 (fun k hk => (HKP.out.2 k (by have := hlt k hk; omega) (by have := hlt k hk; omega)).trans (HG5.out k (hlt k hk).2))) (fun k hk => hk.symm)) (by omega)
              have htk : (K.take (q + 1)).map (post b ls ls.length) = (K.take q).map (post b ls ls.length) ++ [zs] := by rw [List.take_succ_eq_append_getElem hlq, List.map_append, hz]; rfl
              have hEK : Ent (.int .i64 (K.getD q 0)) u := by have e1 : K.getD q 0 = K[q] := (by simp [List.getD, List.getElem?_eq_getElem hlq]); rw [e1]; exact hent
              have hokp : ∀ k, some k = u.ownBlock → okP Ent K w1.heap.size wo.heap.size w5.heap.size (q + 1) k ∧ some k ≠ (Value.slice Ap q cp).ownBlock := fun k hk => ⟨.inl ⟨by have := hlt k hk.symm; omega, (hlt k hk.symm).2, q, by omega, u, hEK, hk⟩, fun e => by have h1 := HOB.out k e.symm; have h2 := hlt k hk.symm; omega⟩
              have HSQ := Aside0.mk (Kd.S_mono (ok' := fun k => okP Ent K w1.heap.size wo.heap.size w5.heap.size (q + 1) k ∧ ¬ some k = u.ownBlock) HS.out (fun k hk => by
                rcases hk with ⟨h1, h2, j, hj, v, hv, hkv⟩ | h1
                · refine ⟨.inl ⟨h1, h2, j, by omega, v, hv, hkv⟩, fun e => HE2.out _ _ _ _ hv hEK (fun e2 => ?_) k hkv e⟩
                  have e3 : K.getD j 0 = K.getD q 0 := by injection e2
                  have e4 := asc_get HKA.out (show j < q by omega) hlq
                  rw [show K.getD j 0 = K[j]'(by omega) from by simp [List.getD, List.getElem?_eq_getElem (show j < K.length by omega)], show K.getD q 0 = K[q] from by simp [List.getD, List.getElem?_eq_getElem hlq]] at e3
                  omega
                · exact ⟨.inr h1, fun e => by have := hlt k e.symm; omega⟩))
              have HOKP := Aside0.mk hokp
              have HRU := Aside0.mk hru
              have HTK := Aside0.mk htk
              have HLT := Aside0.mk hlt
              have hzl : zs.length ≤ 1048576 := by rw [hz]; have := post_len b ls ls.length K[q]; omega
              clear hoi hat hent hEK hokp hru htk hlt hz
              generalize ht : K[q] = t at hcq hkb hrun
              clear ht
              have hdg20 : wl.cell? ⟨g2, 0, none⟩ = some (.int .i64 b) := (blk_cell HG2.out 0).trans rfl; have heg20 := blk_frozen HG2.out 0; have hdg21 : wl.cell? ⟨g2, 1, none⟩ = some (.slice A1 ls.length c1) := (blk_cell HG2.out 1).trans rfl; have heg21 := blk_frozen HG2.out 1; have hdg22 : wl.cell? ⟨g2, 2, none⟩ = some (.slice (some ⟨gk, 0, none⟩) K.length c2) := (blk_cell HG2.out 2).trans rfl; have heg22 := blk_frozen HG2.out 2; have hdg23 : wl.cell? ⟨g2, 3, none⟩ = some (.slice Ap q cp) := (blk_cell HG2.out 3).trans rfl; have heg23 := blk_frozen HG2.out 3
              obtain ⟨Au, cu, rfl⟩ := Kd.R_slice HRU.out
              go_wp2_with (first | (at_lookup; refine wpList_lookup_run _ rfl _ _ 104 rfl rfl rfl hrun ?_) | (at_builtin; refine Kd.S_append HelpII.kI (w0 := w) w.heap.size rfl (.tmp 92) (.tmp 96) 42 22 (.slice none 0 0) 24 rfl Try.underlying42 infoII rfl (by decide) (by omega) (.slice Ap q cp) ((K.take q).map (post b ls ls.length)) zs [.slice Au zs.length cu] (okP Ent K w1.heap.size wo.heap.size w5.heap.size (q + 1)) (fun k_ => some k_ = (.slice Au zs.length cu : Value).ownBlock) rfl rfl ?aP HOKP.out (fun k hk => .inr (by omega)) HSQ.out HBL.out HBL.out.size ?aL ?_; (case aP => exact Kd.M_row HRU.out); (case aL => (rw [List.length_map, List.length_take]; omega)); intro v6 w6 hO6 hB6 hg6 hat6; obtain ⟨A6, c6, rfl⟩ := Kd.S_slice hO6; rw [show ((K.take q).map (post b ls ls.length) ++ [zs]).length = q + 1 from by simp; omega] at hO6 hat6; have hk6 := blk_grown HG2.out hg6 (fun e => by have h1 := HOB.out g2 e.symm; omega); have hpg20 : w6.cell? ⟨g2, 0, none⟩ = some (.int .i64 b) := (blk_cell hk6 0).trans rfl; have hqg20 := blk_frozen hk6 0; have hpg21 : w6.cell? ⟨g2, 1, none⟩ = some (.slice A1 ls.length c1) := (blk_cell hk6 1).trans rfl; have hqg21 := blk_frozen hk6 1; have hpg22 : w6.cell? ⟨g2, 2, none⟩ = some (.slice (some ⟨gk, 0, none⟩) K.length c2) := (blk_cell hk6 2).trans rfl; have hqg22 := blk_frozen hk6 2; have hpg23 : w6.cell? ⟨g2, 3, none⟩ = some (.slice Ap q cp) := (blk_cell hk6 3).trans rfl; have hqg23 := blk_frozen hk6 3))
              go_roundg (K.length - (q + 1))
              case measure => omega
              case rel =>
                have hg5 : w.heap.size ≤ g2 := by omega
                refine ⟨q + 1, A6, c6, by omega, by omega, by go_num, ⟨?_⟩, ⟨?_⟩, ⟨?_⟩, ⟨?_⟩, ⟨?_⟩⟩
                · (with_reducible repeat (first | refine blk_drewN ?_ _ | refine blk_drew ?_ | refine blk_alloc ?_ _)); refine blk_put (cs := #[.int .i64 b, .slice A1 ls.length c1, .slice (some ⟨gk, 0, none⟩) K.length c2, .slice Ap q cp]) ?_ 3 _ rfl; exact hk6
                · rw [HTK.out]
                  exact Kd.S_step hO6 (fun k hk _ => Below.heap_setCell w6 ⟨g2, 3, none⟩ _ k (fun e => by have e' : k = g2 := e; rcases hk with ⟨h1, h2, _⟩ | h1 <;> omega))
                · intro k hk
                  rcases hat6 with h | ⟨bb, h, hle⟩
                  · exact HOB.out k (h ▸ hk)
                  · rw [h] at hk; have e1 : bb = k := (by injection hk); omega
                · exact Kept.setCell (S := fun k => k = g2) (Kept.of_grown hg6 HKP.out (fun k hk => .inr (HOB.out k hk))) (.inl rfl) _
                · exact below_set hB6 hg5
            · have hlqz : ¬ (q : Int) < (K.length : Int) := by omega
              obtain rfl : q = K.length := by omega
              have hS3 := HS.out
              rw [List.take_length] at hS3
              have HS3 := Aside0.mk hS3
              clear hS3 HS
              have hk1 := (HKP.out.2 g1 (by omega) (by omega)).trans HK1.out
              have HK1L := Aside0.mk hk1
              clear hk1
              have hn12 : g1 ≠ g2 := by omega
              have hn21 : g2 ≠ g1 := by omega
              have hdg20 : wl.cell? ⟨g2, 0, none⟩ = some (.int .i64 b) := (blk_cell HG2.out 0).trans rfl; have heg20 := blk_frozen HG2.out 0; have hdg21 : wl.cell? ⟨g2, 1, none⟩ = some (.slice A1 ls.length c1) := (blk_cell HG2.out 1).trans rfl; have heg21 := blk_frozen HG2.out 1; have hdg22 : wl.cell? ⟨g2, 2, none⟩ = some (.slice A2 K.length c2) := (blk_cell HG2.out 2).trans rfl; have heg22 := blk_frozen HG2.out 2; have hdg23 : wl.cell? ⟨g2, 3, none⟩ = some (.slice Ap K.length cp) := (blk_cell HG2.out 3).trans rfl; have heg23 := blk_frozen HG2.out 3
              have hdg10 : wl.cell? ⟨g1, 0, none⟩ = some (.int .i64 0) := (blk_cell HK1L.out 0).trans rfl; have heg10 := blk_frozen HK1L.out 0; have hdg11 : wl.cell? ⟨g1, 1, none⟩ = some (.slice none 0 0) := (blk_cell HK1L.out 1).trans rfl; have heg11 := blk_frozen HK1L.out 1; have hdg12 : wl.cell? ⟨g1, 2, none⟩ = some (.slice none 0 0) := (blk_cell HK1L.out 2).trans rfl; have heg12 := blk_frozen HK1L.out 2; have hdg13 : wl.cell? ⟨g1, 3, none⟩ = some (.slice none 0 0) := (blk_cell HK1L.out 3).trans rfl; have heg13 := blk_frozen HK1L.out 3
              go_wp2
              refine bodyPost_ret (results_ct rfl _ _ g1 50 #[.int .i64 b, .slice A1 ls.length c1, .slice A2 K.length c2, .slice Ap K.length cp] (0, 0) _ rfl (by (with_reducible repeat (first | refine blk_drewN ?_ _ | refine blk_drew ?_ | refine blk_alloc ?_ _)); refine blk_put (cs := #[.int .i64 b, .slice A1 ls.length c1, .slice A2 K.length c2, .slice none 0 0]) ?_ 3 _ rfl; (with_reducible repeat (first | refine blk_drewN ?_ _ | refine blk_drew ?_ | refine blk_alloc ?_ _)); refine blk_put (cs := #[.int .i64 b, .slice A1 ls.length c1, .slice none 0 0, .slice none 0 0]) ?_ 2 _ rfl; (with_reducible repeat (first | refine blk_drewN ?_ _ | refine blk_drew ?_ | refine blk_alloc ?_ _)); refine blk_put (cs := #[.int .i64 b, .slice none 0 0, .slice none 0 0, .slice none 0 0]) ?_ 1 _ rfl; (with_reducible repeat (first | refine blk_drewN ?_ _ | refine blk_drew ?_ | refine blk_alloc ?_ _)); refine blk_put (cs := #[.int .i64 0, .slice none 0 0, .slice none 0 0, .slice none 0 0]) ?_ 0 _ rfl; (with_reducible repeat (first | refine blk_drewN ?_ _ | refine blk_drew ?_ | refine blk_alloc ?_ _)); exact HK1L.out) Try.underlying50 rfl (by kernel_rfl)) rfl ?_
              rw [HBG.out]
              refine ⟨_, rfl, ?_, below_set (below_set (below_set (below_set HBL.out (by omega)) (by omega)) (by omega)) (by omega)⟩
              show tSeg.M _ _ _ (seg b ls) _
              rw [HSEG.out]
              have m1 : HelpBB.tBB.M wl w.heap.size (fun k => wo.heap.size ≤ k ∧ k < wa.heap.size) ls (.slice A1 ls.length c1) := Kd.S_mono (Kd.S_lower (Kd.S_step HM1.out (fun k hk _ => HKP.out.2 k (by have := hk.2.2.1; omega) (by have := hk.2.2.1; omega))) (by omega)) (fun k hk => ⟨hk.2.1, hk.2.2.1⟩)
              have m2 : HelpI.tI.M wl w.heap.size (fun k => wa.heap.size ≤ k ∧ k < ws.heap.size) K (.slice A2 K.length c2) := Kd.R_mono (Kd.R_lower (Kd.R_step HM2.out (fun k hk _ => HKP.out.2 k (by have := hk.2.2.1; omega) (by have := hk.2.2.1; omega))) (by omega)) (fun k hk => ⟨hk.2.1, hk.2.2.1⟩)
              have m3 : HelpII.tII.M wl w.heap.size (okP Ent K w1.heap.size wo.heap.size w5.heap.size K.length) (K.map (post b ls ls.length)) (.slice Ap K.length cp) := HS3.out
              refine ⟨_, rfl, tys.M_mono (fun _ _ => trivial) (Tys.cons_apart (a := Ty.sc (Value.int .i64)) (ok1 := fun _ => False) rfl (Tys.cons_apart (Ty.M_set (T := HelpBB.tBB) (Ty.M_set (T := HelpBB.tBB) (Ty.M_set (T := HelpBB.tBB) (Ty.M_set (T := HelpBB.tBB) m1 (fun k hk e => by have h1 := hk.1; omega) _) (fun k hk e => by have h1 := hk.1; omega) _) (fun k hk e => by have h1 := hk.1; omega) _) (fun k hk e => by have h1 := hk.1; omega) _) (Tys.cons_apart (Ty.M_set (T := HelpI.tI) (Ty.M_set (T := HelpI.tI) (Ty.M_set (T := HelpI.tI) (Ty.M_set (T := HelpI.tI) m2 (fun k hk e => by have h1 := hk.1; omega) _) (fun k hk e => by have h1 := hk.1; omega) _) (fun k hk e => by have h1 := hk.1; omega) _) (fun k hk e => by have h1 := hk.1; omega) _) (Tys.M_one (Ty.M_set (T := HelpII.tII) (Ty.M_set (T := HelpII.tII) (Ty.M_set (T := HelpII.tII) (Ty.M_set (T := HelpII.tII) m3 (fun k hk e => by rcases hk with ⟨h1, h2, _⟩ | h1 <;> omega) _) (fun k hk e => by rcases hk with ⟨h1, h2, _⟩ | h1 <;> omega) _) (fun k hk e => by rcases hk with ⟨h1, h2, _⟩ | h1 <;> omega) _) (fun k hk e => by rcases hk with ⟨h1, h2, _⟩ | h1 <;> omega) _)) ?d2) ?d1) (fun _ _ h => h))⟩
              case d2 => exact fun k hk hk1 => by have h3 := hk1.1; have h4 := hk1.2; rcases hk with ⟨h1, h2, _⟩ | h1 <;> omega
              case d1 => exact fun k hk hk1 => by have h3 := hk1.1; have h4 := hk1.2; rcases hk with hk | ⟨h1, h2, _⟩ | h1; (have h5 := hk.1; omega); omega; omega
theorem total_map (K : List Int) (f : Int → List Int) (m : Nat) (h : ∀ k, (f k).length ≤ m) : HelpII.totalI (K.map f) ≤ K.length * m := by
  induction K with
  | nil => simp [HelpII.totalI]
  | cons k r ih =>
    simp only [List.map_cons, HelpII.totalI, List.length_cons]
    have := h k
    rw [Nat.add_mul]
    omega
abbrev code (b : Int) (ls : List (List Int)) : Int := (build b ls).2
abbrev ans (b : Int) (ls : List (List Int)) : SegT := (build b ls).1
theorem specC (x0 : Int) (x1 : List (List Int)) (v1 : Value) (w : World) (h1 : HelpBB.tBB.K w x1 v1) (s1 : HelpBB.smallBB x1) (hb : Bytes x1) :
    Calls Try.prog 38 #[.int .i64 x0, v1] w fun e w' => ∃ v', e = .returned (.tuple #[v', .int .i64 (code x0 x1)]) ∧ HelpSeg.tSeg.K w' (ans x0 x1) v' ∧ Grew w w' := by
  obtain ⟨A, c, rfl, hc, hr⟩ := h1
  obtain ⟨k, hk⟩ := (PSeg.spec_ev x0 x1 hb s1).rounds
  refine (L.spec_BuildSegment.calls k x0 A c x1 _ _ _ _ _ w hr hc hk).mono ?_
  rintro e w' ⟨v1, v2, v3, rfl, g1, g2, g3, hg⟩
  exact ⟨_, rfl, ⟨[_, v1, v2, v3], rfl, _, _, rfl, rfl, _, _, rfl, Kd.S_reads g1, _, _, rfl, Kd.R_reads g2, _, rfl, Kd.S_reads g3⟩, hg⟩
theorem implC (x0 : Int) (x1 : List (List Int)) (v1 : Value) (w : World) (h1 : HelpBB.tBB.K w x1 v1) (s1 : HelpBB.smallBB x1) (hb : Bytes x1) :
    Calls Try.prog 40 #[.int .i64 x0, v1] w fun e w' => ∃ v', e = .returned (.tuple #[v', .int .i64 (code x0 x1)]) ∧ HelpSeg.tSeg.M w' w.heap.size (fun _ => True) (ans x0 x1) v' ∧ Grew w w' := by
  obtain ⟨A, c, rfl, hc, hr⟩ := h1
  exact build_calls x0 A c x1 w hr hc hb s1
theorem ans_small (x0 : Int) (x1 : List (List Int)) (s1 : HelpBB.smallBB x1) (hb : Bytes x1) : HelpSeg.bdSeg (ans x0 x1) ∧ HelpSeg.cntSeg (ans x0 x1) ≤ 1099511627000 := by
  have hs' : x1.length + totalB x1 ≤ 1048576 := s1
  unfold ans build
  cases hf : fits x0 x1 with
  | false => exact ⟨by refine ⟨⟨?_, ?_⟩, ?_, ⟨?_, ?_⟩⟩ <;> simp [HelpBB.totalB, HelpII.totalI], by simp [HelpSeg.cntSeg, HelpBB.totalB, HelpII.totalI]⟩
  | true =>
    have hk := keys_len x1
    have ht := total_map (keys x1) (post x0 x1 x1.length) x1.length (fun k => post_len _ _ _ _)
    have hfl : x1.length ≤ 1000 ∧ totalB x1 ≤ 20000 := by
      unfold fits at hf
      simp only [Bool.and_eq_true, decide_eq_true_eq] at hf
      obtain ⟨⟨⟨⟨⟨h1, h2⟩, h3⟩, h4⟩, h5⟩, h6⟩ := hf
      exact ⟨by omega, h6⟩
    have hm : (keys x1).length * x1.length ≤ 20000 * 1000 := Nat.mul_le_mul (by omega) hfl.1
    constructor
    · refine ⟨⟨?_, ?_⟩, ?_, ⟨?_, ?_⟩⟩
      · show x1.length ≤ _; omega
      · show totalB x1 ≤ _; omega
      · show (keys x1).length ≤ _; omega
      · show ((keys x1).map _).length ≤ _; rw [List.length_map]; omega
      · show HelpII.totalI ((keys x1).map _) ≤ _; omega
    · show totalB x1 + (keys x1).length + HelpII.totalI ((keys x1).map _) ≤ _
      omega
end Go.Proofs.Ytmgmdnmfalepkaa.Build

namespace Go.Proofs.Ytmgmdnmfalepkaa.SegOk
open Go.RowKit Go.Proofs.YtmgmdnmfalepkaaW.PrintWords Go.Proofs.YtmgmdnmfalepkaaW.PrintMore Go.Proofs.Ytmgmdnmfalepkaa.Kit Go.Proofs.Ytmgmdnmfalepkaa.PKit Go.Proofs.Ytmgmdnmfalepkaa.Ty Go.Proofs.Ytmgmdnmfalepkaa.PSeg Go.Proofs.Ytmgmdnmfalepkaa.PEnc Go.Proofs.Ytmgmdnmfalepkaa.Build Go.Proofs.Ytmgmdnmfalepkaa.EncA Go.Proofs.Ytmgmdnmfalepkaa.HelpBB
set_option linter.unusedVariables false
theorem cellI {w : World} {ad : Addr} {n : Nat} {xs : List Int} (h : Kd.C (Kd.int .i64) w (some ad) n xs) (i : Nat) (hi : i < n) : w.cell? (ad.add i) = some (.int .i64 (xs.getD i 0)) := by
  obtain ⟨ad', c, e, _, hK, hc0⟩ := Kd.C_get h 0 (i : Int) (by omega) (by omega)
  cases e
  rw [Int.toNat_natCast] at hK hc0
  have hk : c = [.int .i64 (xs.getD i 0)] := hK
  subst hk
  have := hc0 0 _ rfl
  simpa [Kd.int, Kd.scalar] using this
set_option maxRecDepth 100000 in
set_option maxHeartbeats 4000000 in
theorem equal_calls (A A' : Option Addr) (c c' : Nat) (x y : List Int) (w : World) (hr : Kd.C (Kd.int .i64) w A x.length x) (hr' : Kd.C (Kd.int .i64) w A' y.length y) (hx0 : x.length ≤ 1099511627776) :
    Calls Try.prog 148 #[.slice A x.length c, .slice A' y.length c'] w fun e w' => e = .returned (.bool (decide (x = y))) ∧ Below w.heap.size w w' := by
  have HX := Aside0.mk hr
  have HY := Aside0.mk hr'
  clear hr hr'
  by_cases hlen : x.length = y.length
  · have HLN := Aside0.mk hlen
    have hbl : ((x.length : Int) != (y.length : Int)) = false := by simp [hlen]
    clear hlen
    go_enter Try.func148, Try.ntmps148
    go_wp2
    go_loopg [13] x.length (fun gg s13 wr => ∃ i : Nat, i ≤ x.length ∧ x.length - i ≤ gg ∧ s13 = .int .i64 i ∧ Aside0 (x.take i = y.take i) ∧ Aside0 (Below w.heap.size w wr))
    case atStart => exact ⟨0, by omega, by omega, rfl, ⟨rfl⟩, ⟨Below.refl _ _⟩⟩
    case round =>
      obtain ⟨i, hi, hg, rfl, HT, HB⟩ := hrel
      have hla : x.length ≤ y.length := Nat.le_of_eq HLN.out
      have hlb : y.length ≤ x.length := Nat.le_of_eq HLN.out.symm
      by_cases hlt : i < x.length
      · have hltz : (i : Int) < (x.length : Int) := by omega
        have hlty : (i : Int) < (y.length : Int) := by omega
        obtain ⟨ad, hA, _⟩ := HX.out.2.2 (by omega)
        obtain ⟨ad', hA', _⟩ := HY.out.2.2 (by omega)
        subst hA
        subst hA'
        have hcx := cellI (Kd.C_below HX.out HB.out) i (by omega)
        have hcy := cellI (Kd.C_below HY.out HB.out) i (by omega)
        have hstep : x.getD i 0 = y.getD i 0 → x.take (i + 1) = y.take (i + 1) := fun e => by
          rw [List.take_succ_eq_append_getElem hlt, List.take_succ_eq_append_getElem (show i < y.length by omega), HT.out, ← getD_get' x i hlt, ← getD_get' y i (by omega), e]
        have hne : x.getD i 0 ≠ y.getD i 0 → decide (x = y) = false := fun h => decide_eq_false (fun e => h (by rw [e]))
        have HS := Aside0.mk hstep
        have HNE := Aside0.mk hne
        clear hstep hne
        generalize hx : x.getD i 0 = xi at hcx HS HNE
        generalize hy : y.getD i 0 = yi at hcy HS HNE
        clear hx hy
        by_cases he : xi = yi
        · subst he
          have hbn : (xi != xi) = false := by simp
          go_wp2_with fail
          go_quiet (fail)
          go_wp2
          go_roundg (x.length - (i + 1))
          case measure => omega
          case rel => exact ⟨i + 1, by omega, by omega, by go_num, ⟨HS.out (by first | rfl | trivial)⟩, ⟨pw_below_drewN HB.out _⟩⟩
        · have hbn : (xi != yi) = true := by simpa using he
          go_wp2_with fail
          go_quiet (fail)
          go_wp2
          go_ret
          exact ⟨by rw [HNE.out he]; rfl, pw_below_drewN HB.out _⟩
      · have hltz : ¬ (i : Int) < (x.length : Int) := by omega
        obtain rfl : i = x.length := by omega
        have he : x = y := by
          have h1 := HT.out
          rw [List.take_length, List.take_of_length_le (by omega)] at h1
          exact h1
        have HE := Aside0.mk (show decide (x = y) = true from decide_eq_true he)
        clear he
        go_wp2
        go_ret
        exact ⟨by rw [HE.out]; rfl, HB.out⟩
  · have hlz : ¬ (x.length : Int) = (y.length : Int) := by omega
    go_enter Try.func148, Try.ntmps148
    go_wp2
    go_ret
    exact ⟨by rw [decide_eq_false (fun e => hlen (by rw [e]))]; rfl, Below.refl _ _⟩
set_option maxRecDepth 100000 in
set_option maxHeartbeats 4000000 in
theorem equalF_calls (A A' : Option Addr) (c c' : Nat) (x y : List (List Int)) (w : World) (hr : Kd.C HelpII.kI w A x.length x) (hr' : Kd.C HelpII.kI w A' y.length y) (hx0 : x.length ≤ 1099511627776) (hx1 : HelpII.totalI x ≤ 1099511627776) :
    Calls Try.prog 149 #[.slice A x.length c, .slice A' y.length c', .func (.func 148) #[] #[]] w fun e w' => e = .returned (.bool (decide (x = y))) ∧ Below w.heap.size w w' := by
  have HX := Aside0.mk hr
  have HY := Aside0.mk hr'
  clear hr hr'
  by_cases hlen : x.length = y.length
  · have HLN := Aside0.mk hlen
    have hbl : ((x.length : Int) != (y.length : Int)) = false := by simp [hlen]
    clear hlen
    go_enter Try.func149, Try.ntmps149
    go_wp2
    go_loopg [17] x.length (fun gg s17 wr => ∃ i : Nat, i ≤ x.length ∧ x.length - i ≤ gg ∧ s17 = .int .i64 i ∧ Aside0 (x.take i = y.take i) ∧ Aside0 (Below w.heap.size w wr))
    case atStart => exact ⟨0, by omega, by omega, rfl, ⟨rfl⟩, ⟨Below.refl _ _⟩⟩
    case round =>
      obtain ⟨i, hi, hg, rfl, HT, HB⟩ := hrel
      have hla : x.length ≤ y.length := Nat.le_of_eq HLN.out
      have hlb : y.length ≤ x.length := Nat.le_of_eq HLN.out.symm
      by_cases hlt : i < x.length
      · have hltz : (i : Int) < (x.length : Int) := by omega
        have hlty : (i : Int) < (y.length : Int) := by omega
        obtain ⟨ad, u, rfl, hc0, hK⟩ := get_one (d := HelpII.kI) rfl HX.out [] i hlt
        obtain ⟨B, b, e', _, hr1⟩ := hK
        obtain rfl : u = .slice B (x.getD i []).length b := by injection e'
        obtain ⟨ad', u', rfl, hc1, hK'⟩ := get_one (d := HelpII.kI) rfl HY.out [] i (by omega)
        obtain ⟨B', b', e'', _, hr2⟩ := hK'
        obtain rfl : u' = .slice B' (y.getD i []).length b' := by injection e''
        have hcx : wr.cell? (ad.add i) = some (.slice B (x.getD i []).length b) := (HB.out.cell (World.block_lt_of_cell? w _ hc0)).trans hc0
        have hcy : wr.cell? (ad'.add i) = some (.slice B' (y.getD i []).length b') := (HB.out.cell (World.block_lt_of_cell? w _ hc1)).trans hc1
        have gx : x.getD i [] = x[i] := by simp [List.getD, List.getElem?_eq_getElem hlt]
        have gy : y.getD i [] = y[i]'(by omega) := by simp [List.getD, List.getElem?_eq_getElem (show i < y.length by omega)]
        have hle : (x.getD i []).length ≤ 1099511627776 := by
          have h1 := HelpII.total_mem (show x.getD i [] ∈ x by rw [gx]; exact List.getElem_mem hlt)
          omega
        have heq := equal_calls B B' b b' (x.getD i []) (y.getD i []) wr (Kd.C_below hr1 HB.out) (Kd.C_below hr2 HB.out) hle
        have hstep : x.getD i [] = y.getD i [] → x.take (i + 1) = y.take (i + 1) := fun e => by
          rw [List.take_succ_eq_append_getElem hlt, List.take_succ_eq_append_getElem (show i < y.length by omega), HT.out, ← gx, ← gy, e]
        have hne : x.getD i [] ≠ y.getD i [] → decide (x = y) = false := fun h => decide_eq_false (fun e => h (by rw [e]))
        have HS := Aside0.mk hstep
        have HNE := Aside0.mk hne
        clear hstep hne hr1 hr2 e' e'' hc0 hc1 gx gy hle
        generalize hx : x.getD i [] = xi at hcx HS HNE heq
        generalize hy : y.getD i [] = yi at hcy HS HNE heq
        clear hx hy
        by_cases he : xi = yi
        · rw [decide_eq_true he] at heq
          have HEQ := Aside0.mk he
          clear he
          go_wp2_with (go_at_call 148; refine heq.mono ?_; rintro e w2 ⟨rfl, hb2⟩)
          go_roundg (x.length - (i + 1))
          case measure => omega
          case rel => exact ⟨i + 1, by omega, by omega, by go_num, ⟨HS.out HEQ.out⟩, ⟨below_then HB.out HB.out.size hb2⟩⟩
        · rw [decide_eq_false he] at heq
          have HEQ := Aside0.mk he
          clear he
          go_wp2_with (go_at_call 148; refine heq.mono ?_; rintro e w2 ⟨rfl, hb2⟩)
          go_ret
          exact ⟨by rw [HNE.out HEQ.out]; rfl, below_then HB.out HB.out.size hb2⟩
      · have hltz : ¬ (i : Int) < (x.length : Int) := by omega
        obtain rfl : i = x.length := by omega
        have he : x = y := by
          have h1 := HT.out
          rw [List.take_length, List.take_of_length_le (by omega)] at h1
          exact h1
        have HE := Aside0.mk (show decide (x = y) = true from decide_eq_true he)
        clear he
        go_wp2
        go_ret
        exact ⟨by rw [HE.out]; rfl, HB.out⟩
  · have hlz : ¬ (x.length : Int) = (y.length : Int) := by omega
    go_enter Try.func149, Try.ntmps149
    go_wp2
    go_ret
    exact ⟨by rw [decide_eq_false (fun e => hlen (by rw [e]))]; rfl, Below.refl _ _⟩
set_option maxRecDepth 100000 in
set_option maxHeartbeats 4000000 in
theorem segOk_calls (b : Int) (ls : List (List Int)) (K : List Int) (Ps : List (List Int)) (A1 A2 A3 : Option Addr) (c1 c2 c3 : Nat) (w : World) (h1 : HelpBB.tBB.K w ls (.slice A1 ls.length c1)) (h2 : HelpI.tI.K w K (.slice A2 K.length c2)) (h3 : HelpII.tII.K w Ps (.slice A3 Ps.length c3))
    (hby : Bytes ls) (hs : smallBB ls) (hk : K.length ≤ 1048576) (hp : Ps.length + HelpII.totalI Ps ≤ 1048576) :
    Calls Try.prog 108 #[.agg #[.int .i64 b, .slice A1 ls.length c1, .slice A2 K.length c2, .slice A3 Ps.length c3]] w fun e w' => e = .returned (.bool (valid (b, ls, K, Ps))) ∧ Below w.heap.size w w' := by
  have huI := Try.underlying50
  obtain ⟨B1, e1, q1, hc1, hr1⟩ := h1
  obtain ⟨rfl, rfl⟩ : A1 = B1 ∧ c1 = e1 := by injection q1 with q1 q2 q3; exact ⟨q1, q3⟩
  have R1 := Aside0.mk hr1
  have C1 := Aside0.mk hc1
  clear hc1 hr1 q1
  obtain ⟨B2, e2, q2, hc2, hr2⟩ := h2
  obtain ⟨rfl, rfl⟩ : A2 = B2 ∧ c2 = e2 := by injection q2 with q1 q2 q3; exact ⟨q1, q3⟩
  have R2 := Aside0.mk hr2
  have C2 := Aside0.mk hc2
  clear hc2 hr2 q2
  obtain ⟨B3, e3, q3, hc3, hr3⟩ := h3
  obtain ⟨rfl, rfl⟩ : A3 = B3 ∧ c3 = e3 := by injection q3 with q1 q2 q3; exact ⟨q1, q3⟩
  have R3 := Aside0.mk hr3
  have C3 := Aside0.mk hc3
  clear hc3 hr3 q3
  have HBY := Aside0.mk hby
  have HS := Aside0.mk hs
  have hbuild : ∀ w1 : World, Below w.heap.size w w1 → Calls Try.prog 40 #[.int .i64 b, .slice A1 ls.length c1] w1 fun e w' => ∃ v, e = .returned (.tuple #[v, .int .i64 (build b ls).2]) ∧ (∃ (bb : Int) (l1 : List (List Int)) (l2 : List Int) (l3 : List (List Int)) (D1 D2 D3 : Option Addr) (d1 d2 d3 : Nat), v = .agg #[.int .i64 bb, .slice D1 l1.length d1, .slice D2 l2.length d2, .slice D3 l3.length d3] ∧ (bb, l1, l2, l3) = (build b ls).1 ∧ Kd.C (Kd.int .i64) w' D2 l2.length l2 ∧ Kd.C HelpII.kI w' D3 l3.length l3) ∧ Grew w1 w' := fun w1 hw => by
    refine (build_calls b A1 c1 ls w1 (Kd.C_below R1.out hw) C1.out HBY.out HS.out).mono ?_
    rintro e w' ⟨v, rfl, hM, hg⟩
    refine ⟨v, rfl, ?_, hg⟩
    have hK := HelpSeg.tSeg.K_of_M hM
    generalize (build b ls).1 = R at hK ⊢
    obtain ⟨bb, l1, l2, l3⟩ := R
    obtain ⟨l, rfl, u0, r0, rfl, g0, u1, r1, rfl, g1, u2, r2, rfl, g2, u3, rfl, g3⟩ := hK
    have g0 : u0 = .int .i64 bb := g0
    subst g0
    obtain ⟨D1, d1, rfl, _, _⟩ := g1
    obtain ⟨D2, d2, rfl, _, hC2⟩ := g2
    obtain ⟨D3, d3, rfl, _, hC3⟩ := g3
    exact ⟨bb, l1, l2, l3, D1, D2, D3, d1, d2, d3, rfl, rfl, hC2, hC3⟩
  clear hby hs
  cases hf : fits b ls with
  | false =>
    have hv : valid (b, ls, K, Ps) = false := by
      show (fits b ls && _) = false
      rw [hf]
      rfl
    have HCO := Aside0.mk (show (build b ls).2 = 4 from by rw [build_bad hf])
    rw [hv]
    clear hv hf
    go_enter Try.func108, Try.ntmps108
    go_wp2_with (first | ((with_reducible refine gate_dst (N := 1) rfl ?_); refine box_event ?hg (N := 1) ?hd (cs := #[.int .i64 b, .slice A1 ls.length c1, .slice A2 K.length c2, .slice A3 Ps.length c3]) (t := 50) ?hr ?_; (case hd => rfl); (case hg => rfl); (case hr => first | (go_simp; done) | (go_simp; rfl)); intro gs hg_ w1 hbx hbb; clear hg_; have BKs := Aside0.mk hbx; have HB := Aside0.mk hbb; have hc0 : (w1).cell? ⟨gs, 0, none⟩ = some (.int .i64 b) := (blk_cell hbx 0).trans rfl; have fhc0 := blk_frozen hbx 0; have hc1 : (w1).cell? ⟨gs, 1, none⟩ = some (.slice A1 ls.length c1) := (blk_cell hbx 1).trans rfl; have fhc1 := blk_frozen hbx 1; have hc2 : (w1).cell? ⟨gs, 2, none⟩ = some (.slice A2 K.length c2) := (blk_cell hbx 2).trans rfl; have fhc2 := blk_frozen hbx 2; have hc3 : (w1).cell? ⟨gs, 3, none⟩ = some (.slice A3 Ps.length c3) := (blk_cell hbx 3).trans rfl; have fhc3 := blk_frozen hbx 3; clear hbx hbb))
    go_at_call 40
    refine (hbuild w1 HB.out).mono ?_
    rintro e w2 ⟨v2, rfl, hM, hg2⟩
    rw [HCO.out]
    obtain ⟨bb, l1, l2, l3, D1, D2, D3, d1, d2, d3, ev, hCC⟩ := hM
    subst ev
    have HCC := Aside0.mk hCC
    have HG2 := Aside0.mk hg2
    have BK2 := Aside0.mk (blk_below (g := gs) BKs.out hg2)
    have BK3 := Aside0.mk (blk_alloc BK2.out (.cells #[.int .i64 bb, .slice D1 l1.length d1, .slice D2 l2.length d2, .slice D3 l3.length d3] 50 (0, 0)))
    clear hCC hg2
    have hd0 : (w2).cell? ⟨gs, 0, none⟩ = some (.int .i64 b) := (blk_cell BK2.out 0).trans rfl
    have fhd0 := blk_frozen BK2.out 0
    have hd1 : (w2).cell? ⟨gs, 1, none⟩ = some (.slice A1 ls.length c1) := (blk_cell BK2.out 1).trans rfl
    have fhd1 := blk_frozen BK2.out 1
    have hd2 : (w2).cell? ⟨gs, 2, none⟩ = some (.slice A2 K.length c2) := (blk_cell BK2.out 2).trans rfl
    have fhd2 := blk_frozen BK2.out 2
    have hd3 : (w2).cell? ⟨gs, 3, none⟩ = some (.slice A3 Ps.length c3) := (blk_cell BK2.out 3).trans rfl
    have fhd3 := blk_frozen BK2.out 3
    have he0 : (w2.alloc (.cells #[.int .i64 bb, .slice D1 l1.length d1, .slice D2 l2.length d2, .slice D3 l3.length d3] 50 (0, 0))).cell? ⟨gs, 0, none⟩ = some (.int .i64 b) := (blk_cell BK3.out 0).trans rfl
    have fhe0 := blk_frozen BK3.out 0
    have he1 : (w2.alloc (.cells #[.int .i64 bb, .slice D1 l1.length d1, .slice D2 l2.length d2, .slice D3 l3.length d3] 50 (0, 0))).cell? ⟨gs, 1, none⟩ = some (.slice A1 ls.length c1) := (blk_cell BK3.out 1).trans rfl
    have fhe1 := blk_frozen BK3.out 1
    have he2 : (w2.alloc (.cells #[.int .i64 bb, .slice D1 l1.length d1, .slice D2 l2.length d2, .slice D3 l3.length d3] 50 (0, 0))).cell? ⟨gs, 2, none⟩ = some (.slice A2 K.length c2) := (blk_cell BK3.out 2).trans rfl
    have fhe2 := blk_frozen BK3.out 2
    have he3 : (w2.alloc (.cells #[.int .i64 bb, .slice D1 l1.length d1, .slice D2 l2.length d2, .slice D3 l3.length d3] 50 (0, 0))).cell? ⟨gs, 3, none⟩ = some (.slice A3 Ps.length c3) := (blk_cell BK3.out 3).trans rfl
    have fhe3 := blk_frozen BK3.out 3
    go_wp2
    go_ret
    exact ⟨rfl, grew_trans (grew_trans HB.out HG2.out) (below_alloc (Below.refl _ _) _)⟩
  | true =>
    have HBD := Aside0.mk (show (build b ls).1 = (b, ls, keys ls, (keys ls).map (post b ls ls.length)) from by unfold build; rw [hf]; rfl)
    have HCO := Aside0.mk (show (build b ls).2 = 0 from by unfold build; rw [hf]; rfl)
    have HV := Aside0.mk (show valid (b, ls, K, Ps) = (decide (K = keys ls) && decide (Ps = (keys ls).map (post b ls ls.length))) from by show (fits b ls && _) = _; rw [hf]; rfl)
    have HGR := Aside0.mk (show ∀ W w2 : World, Below w.heap.size w W → W = w2 → True from fun _ _ _ _ => trivial)
    rw [HV.out]
    clear hf
    go_enter Try.func108, Try.ntmps108
    go_wp2_with (first | ((with_reducible refine gate_dst (N := 1) rfl ?_); refine box_event ?hg (N := 1) ?hd (cs := #[.int .i64 b, .slice A1 ls.length c1, .slice A2 K.length c2, .slice A3 Ps.length c3]) (t := 50) ?hr ?_; (case hd => rfl); (case hg => rfl); (case hr => first | (go_simp; done) | (go_simp; rfl)); intro gs hg_ w1 hbx hbb; clear hg_; have BKs := Aside0.mk hbx; have HB := Aside0.mk hbb; have hc0 : (w1).cell? ⟨gs, 0, none⟩ = some (.int .i64 b) := (blk_cell hbx 0).trans rfl; have fhc0 := blk_frozen hbx 0; have hc1 : (w1).cell? ⟨gs, 1, none⟩ = some (.slice A1 ls.length c1) := (blk_cell hbx 1).trans rfl; have fhc1 := blk_frozen hbx 1; have hc2 : (w1).cell? ⟨gs, 2, none⟩ = some (.slice A2 K.length c2) := (blk_cell hbx 2).trans rfl; have fhc2 := blk_frozen hbx 2; have hc3 : (w1).cell? ⟨gs, 3, none⟩ = some (.slice A3 Ps.length c3) := (blk_cell hbx 3).trans rfl; have fhc3 := blk_frozen hbx 3; clear hbx hbb))
    go_at_call 40
    refine (hbuild w1 HB.out).mono ?_
    rintro e w2 ⟨v2, rfl, hM, hg2⟩
    rw [HCO.out]
    obtain ⟨bb, l1, l2, l3, D1, D2, D3, d1, d2, d3, ev, hCC⟩ := hM
    subst ev
    have HCC := Aside0.mk hCC
    have HG2 := Aside0.mk hg2
    have BK2 := Aside0.mk (blk_below (g := gs) BKs.out hg2)
    have BK3 := Aside0.mk (blk_alloc BK2.out (.cells #[.int .i64 bb, .slice D1 l1.length d1, .slice D2 l2.length d2, .slice D3 l3.length d3] 50 (0, 0)))
    clear hCC hg2
    have hd0 : (w2).cell? ⟨gs, 0, none⟩ = some (.int .i64 b) := (blk_cell BK2.out 0).trans rfl
    have fhd0 := blk_frozen BK2.out 0
    have hd1 : (w2).cell? ⟨gs, 1, none⟩ = some (.slice A1 ls.length c1) := (blk_cell BK2.out 1).trans rfl
    have fhd1 := blk_frozen BK2.out 1
    have hd2 : (w2).cell? ⟨gs, 2, none⟩ = some (.slice A2 K.length c2) := (blk_cell BK2.out 2).trans rfl
    have fhd2 := blk_frozen BK2.out 2
    have hd3 : (w2).cell? ⟨gs, 3, none⟩ = some (.slice A3 Ps.length c3) := (blk_cell BK2.out 3).trans rfl
    have fhd3 := blk_frozen BK2.out 3
    have he0 : (w2.alloc (.cells #[.int .i64 bb, .slice D1 l1.length d1, .slice D2 l2.length d2, .slice D3 l3.length d3] 50 (0, 0))).cell? ⟨gs, 0, none⟩ = some (.int .i64 b) := (blk_cell BK3.out 0).trans rfl
    have fhe0 := blk_frozen BK3.out 0
    have he1 : (w2.alloc (.cells #[.int .i64 bb, .slice D1 l1.length d1, .slice D2 l2.length d2, .slice D3 l3.length d3] 50 (0, 0))).cell? ⟨gs, 1, none⟩ = some (.slice A1 ls.length c1) := (blk_cell BK3.out 1).trans rfl
    have fhe1 := blk_frozen BK3.out 1
    have he2 : (w2.alloc (.cells #[.int .i64 bb, .slice D1 l1.length d1, .slice D2 l2.length d2, .slice D3 l3.length d3] 50 (0, 0))).cell? ⟨gs, 2, none⟩ = some (.slice A2 K.length c2) := (blk_cell BK3.out 2).trans rfl
    have fhe2 := blk_frozen BK3.out 2
    have he3 : (w2.alloc (.cells #[.int .i64 bb, .slice D1 l1.length d1, .slice D2 l2.length d2, .slice D3 l3.length d3] 50 (0, 0))).cell? ⟨gs, 3, none⟩ = some (.slice A3 Ps.length c3) := (blk_cell BK3.out 3).trans rfl
    have fhe3 := blk_frozen BK3.out 3
    go_wp2_with fail
    have HL := Aside0.mk (HCC.out.1.trans HBD.out)
    have HL2 := Aside0.mk (show l2 = keys ls from congrArg (fun q => q.2.2.1) HL.out)
    have HL3 := Aside0.mk (show l3 = (keys ls).map (post b ls ls.length) from congrArg (fun q => q.2.2.2) HL.out)
    have HW := Aside0.mk (grew_trans (grew_trans HB.out HG2.out) (below_alloc (Below.refl _ w2) (.cells #[.int .i64 bb, .slice D1 l1.length d1, .slice D2 l2.length d2, .slice D3 l3.length d3] 50 (0, 0))))
    have heq := equal_calls A2 D2 c2 d2 K l2 (w2.alloc (.cells #[.int .i64 bb, .slice D1 l1.length d1, .slice D2 l2.length d2, .slice D3 l3.length d3] 50 (0, 0))) (Kd.C_below R2.out HW.out) (Kd.C_alloc HCC.out.2.1 _) (by omega)
    have HBT := Aside0.mk (show (w2.alloc (.cells #[.int .i64 bb, .slice D1 l1.length d1, .slice D2 l2.length d2, .slice D3 l3.length d3] 50 (0, 0))).heap[w2.heap.size]? = some (.cells #[.int .i64 bb, .slice D1 l1.length d1, .slice D2 l2.length d2, .slice D3 l3.length d3] 50 (0, 0)) from heap_alloc_new w2 _)
    by_cases hKe : K = l2
    · rw [decide_eq_true hKe] at heq
      have HR1 := Aside0.mk (show decide (K = keys ls) = true from decide_eq_true (hKe.trans HL2.out))
      clear hKe
      refine heq.mono ?_
      rintro e w4 ⟨rfl, hb4⟩
      have BK4 := Aside0.mk (blk_below (g := gs) BK3.out hb4)
      have BT4 := Aside0.mk (blk_below (g := w2.heap.size) HBT.out hb4)
      have HW4 := Aside0.mk (grew_trans HW.out hb4)
      have hD3 := Kd.C_below (Kd.C_alloc HCC.out.2.2 (.cells #[.int .i64 bb, .slice D1 l1.length d1, .slice D2 l2.length d2, .slice D3 l3.length d3] 50 (0, 0))) hb4
      have heqF := equalF_calls A3 D3 c3 d3 Ps l3 w4 (Kd.C_below R3.out HW4.out) hD3 (by omega) (by omega)
      have hg0 : w4.cell? ⟨gs, 0, none⟩ = some (.int .i64 b) := (blk_cell BK4.out 0).trans rfl
      have fhg0 := blk_frozen BK4.out 0
      have hg1 : w4.cell? ⟨gs, 1, none⟩ = some (.slice A1 ls.length c1) := (blk_cell BK4.out 1).trans rfl
      have fhg1 := blk_frozen BK4.out 1
      have hg2 : w4.cell? ⟨gs, 2, none⟩ = some (.slice A2 K.length c2) := (blk_cell BK4.out 2).trans rfl
      have fhg2 := blk_frozen BK4.out 2
      have hg3 : w4.cell? ⟨gs, 3, none⟩ = some (.slice A3 Ps.length c3) := (blk_cell BK4.out 3).trans rfl
      have fhg3 := blk_frozen BK4.out 3
      have ht0 : w4.cell? ⟨w2.heap.size, 0, none⟩ = some (.int .i64 bb) := (blk_cell BT4.out 0).trans rfl
      have fht0 := blk_frozen BT4.out 0
      have ht1 : w4.cell? ⟨w2.heap.size, 1, none⟩ = some (.slice D1 l1.length d1) := (blk_cell BT4.out 1).trans rfl
      have fht1 := blk_frozen BT4.out 1
      have ht2 : w4.cell? ⟨w2.heap.size, 2, none⟩ = some (.slice D2 l2.length d2) := (blk_cell BT4.out 2).trans rfl
      have fht2 := blk_frozen BT4.out 2
      have ht3 : w4.cell? ⟨w2.heap.size, 3, none⟩ = some (.slice D3 l3.length d3) := (blk_cell BT4.out 3).trans rfl
      have fht3 := blk_frozen BT4.out 3
      go_wp2_with (go_at_call 149; refine heqF.mono ?_; rintro e w5 ⟨rfl, hb5⟩)
      go_ret
      refine ⟨?_, grew_trans HW4.out hb5⟩
      rw [HR1.out, Bool.true_and, ← HL3.out]
      rfl
    · rw [decide_eq_false hKe] at heq
      have HR1 := Aside0.mk (show decide (K = keys ls) = false from decide_eq_false (fun e => hKe (e.trans HL2.out.symm)))
      clear hKe
      refine heq.mono ?_
      rintro e w4 ⟨rfl, hb4⟩
      go_wp2
      go_ret
      refine ⟨?_, grew_trans HW.out hb4⟩
      rw [HR1.out, Bool.false_and]
      rfl
end Go.Proofs.Ytmgmdnmfalepkaa.SegOk

namespace Go.Proofs.Ytmgmdnmfalepkaa.Encode
open Go.RowKit Go.Proofs.YtmgmdnmfalepkaaW.PrintWords Go.Proofs.YtmgmdnmfalepkaaW.PrintMore Go.Proofs.Ytmgmdnmfalepkaa.Kit Go.Proofs.Ytmgmdnmfalepkaa.PKit Go.Proofs.Ytmgmdnmfalepkaa.Ty Go.Proofs.Ytmgmdnmfalepkaa.PSeg Go.Proofs.Ytmgmdnmfalepkaa.PEnc Go.Proofs.Ytmgmdnmfalepkaa.Build Go.Proofs.Ytmgmdnmfalepkaa.EncA Go.Proofs.Ytmgmdnmfalepkaa.EncB Go.Proofs.Ytmgmdnmfalepkaa.SegOk Go.Proofs.Ytmgmdnmfalepkaa.HelpBB
set_option linter.unusedVariables false
theorem small_parts' {x : SegT} (h : HelpSeg.smallSeg x) : smallBB x.2.1 ∧ x.2.2.1.length ≤ 1048576 ∧ x.2.2.2.length + HelpII.totalI x.2.2.2 ≤ 1048576 := by
  have h' : (x.2.1.length + HelpBB.totalB x.2.1) + x.2.2.1.length + (x.2.2.2.length + HelpII.totalI x.2.2.2) ≤ 1048576 := h
  exact ⟨by show _ ≤ _; omega, by omega, by omega⟩
set_option maxRecDepth 100000 in
set_option maxHeartbeats 4000000 in
theorem implC (x0 : SegT) (v0 : Value) (w : World) (h0 : HelpSeg.tSeg.K w x0 v0) (s0 : HelpSeg.smallSeg x0) (hb : Bytes x0.2.1) :
    Calls Try.prog 49 #[v0] w fun e w' => ∃ v', e = .returned v' ∧ HelpB.tB.M w' w.heap.size (fun _ => True) (enc x0) v' ∧ Grew w w' := by
  have huI := Try.underlying50
  obtain ⟨p1, p2, p3⟩ := small_parts' s0
  clear s0
  obtain ⟨b, ls, K, Ps⟩ := x0
  obtain ⟨l, rfl, u0, r0, rfl, g0, u1, r1, rfl, g1, u2, r2, rfl, g2, u3, rfl, g3⟩ := h0
  have g0 : u0 = .int .i64 b := g0
  subst g0
  obtain ⟨A1, c1, rfl, hc1, hr1⟩ := g1
  obtain ⟨A2, c2, rfl, hc2, hr2⟩ := g2
  obtain ⟨A3, c3, rfl, hc3, hr3⟩ := g3
  have K1 := Aside0.mk (show HelpBB.tBB.K w ls (.slice A1 ls.length c1) from ⟨A1, c1, rfl, hc1, hr1⟩)
  have K2 := Aside0.mk (show HelpI.tI.K w K (.slice A2 K.length c2) from ⟨A2, c2, rfl, hc2, hr2⟩)
  have K3 := Aside0.mk (show HelpII.tII.K w Ps (.slice A3 Ps.length c3) from ⟨A3, c3, rfl, hc3, hr3⟩)
  have hb : Bytes ls := hb
  have HBY := Aside0.mk hb
  have p1 : smallBB ls := p1
  have p2 : K.length ≤ 1048576 := p2
  have p3 : Ps.length + HelpII.totalI Ps ≤ 1048576 := p3
  clear hc1 hr1 hc2 hr2 hc3 hr3 hb
  have hseg : ∀ w1 : World, Below w.heap.size w w1 → Calls Try.prog 108 #[.agg #[.int .i64 b, .slice A1 ls.length c1, .slice A2 K.length c2, .slice A3 Ps.length c3]] w1 fun e w' => e = .returned (.bool (valid (b, ls, K, Ps))) ∧ Below w1.heap.size w1 w' := fun w1 hw => segOk_calls b ls K Ps A1 A2 A3 c1 c2 c3 w1 (HelpBB.tBB.K_below hw K1.out) (HelpI.tI.K_below hw K2.out) (HelpII.tII.K_below hw K3.out) HBY.out p1 p2 p3
  clear p1 p2 p3
  show Calls _ _ #[.agg #[.int .i64 b, .slice A1 ls.length c1, .slice A2 K.length c2, .slice A3 Ps.length c3]] w _
  cases hv : valid (b, ls, K, Ps) with
  | false =>
    rw [hv] at hseg
    have HE := Aside0.mk (show enc (b, ls, K, Ps) = [] from by unfold enc; rw [hv]; rfl)
    clear hv
    go_enter Try.func49, Try.ntmps49
    go_wp2_with (first | ((with_reducible refine gate_dst (N := 1) rfl ?_); refine box_event ?hg (N := 1) ?hd (cs := #[.int .i64 b, .slice A1 ls.length c1, .slice A2 K.length c2, .slice A3 Ps.length c3]) (t := 50) ?hr ?_; (case hd => rfl); (case hg => rfl); (case hr => first | (go_simp; done) | (go_simp; rfl)); intro gs hg_ w1 hbx hbb; clear hg_; have BKs := Aside0.mk hbx; have HB := Aside0.mk hbb; have hc0 : w1.cell? ⟨gs, 0, none⟩ = some (.int .i64 b) := (blk_cell hbx 0).trans rfl; have fhc0 := blk_frozen hbx 0; have hc1 : w1.cell? ⟨gs, 1, none⟩ = some (.slice A1 ls.length c1) := (blk_cell hbx 1).trans rfl; have fhc1 := blk_frozen hbx 1; have hc2 : w1.cell? ⟨gs, 2, none⟩ = some (.slice A2 K.length c2) := (blk_cell hbx 2).trans rfl; have fhc2 := blk_frozen hbx 2; have hc3 : w1.cell? ⟨gs, 3, none⟩ = some (.slice A3 Ps.length c3) := (blk_cell hbx 3).trans rfl; have fhc3 := blk_frozen hbx 3; clear hbx hbb) | (go_at_call 108; refine (hseg w1 HB.out).mono ?_; rintro e w2 ⟨rfl, hg2⟩; have BK2 := Aside0.mk (blk_below (g := gs) BKs.out hg2); have HG2 := Aside0.mk hg2; clear hg2; have hd0 : w2.cell? ⟨gs, 0, none⟩ = some (.int .i64 b) := (blk_cell BK2.out 0).trans rfl; have fhd0 := blk_frozen BK2.out 0; have hd1 : w2.cell? ⟨gs, 1, none⟩ = some (.slice A1 ls.length c1) := (blk_cell BK2.out 1).trans rfl; have fhd1 := blk_frozen BK2.out 1; have hd2 : w2.cell? ⟨gs, 2, none⟩ = some (.slice A2 K.length c2) := (blk_cell BK2.out 2).trans rfl; have fhd2 := blk_frozen BK2.out 2; have hd3 : w2.cell? ⟨gs, 3, none⟩ = some (.slice A3 Ps.length c3) := (blk_cell BK2.out 3).trans rfl; have fhd3 := blk_frozen BK2.out 3))
    go_ret
    refine ⟨_, rfl, ?_, grew_trans HB.out HG2.out⟩
    rw [HE.out]
    exact Kd.R_nil _ _ _ _ _
  | true =>
    rw [hv] at hseg
    have HE := Aside0.mk (show enc (b, ls, K, Ps) = code (b, ls, K, Ps) from by unfold enc; rw [hv]; rfl)
    obtain ⟨q1, q2⟩ := valid_seg hv
    have hok : EncOk (b, ls, K, Ps) := by rw [q2]; exact encOk_seg q1 HBY.out
    have hb0 : 0 ≤ b := hok.b0
    clear hv q1 q2
    obtain ⟨bn, rfl⟩ : ∃ n : Nat, b = (n : Int) := ⟨b.toNat, by omega⟩
    have HOK := Aside0.mk hok
    clear hok hb0
    have henc : ∀ w2 : World, Below w.heap.size w w2 → Calls Try.prog 105 #[.agg #[.int .i64 (bn : Int), .slice A1 ls.length c1, .slice A2 K.length c2, .slice A3 Ps.length c3]] w2 fun e w' => ∃ v', e = .returned v' ∧ HelpB.tB.M w' w2.heap.size (fun _ => True) (code ((bn : Int), ls, K, Ps)) v' ∧ Grew w2 w' := fun w2 hw => encoded_calls bn ls K Ps A1 A2 A3 c1 c2 c3 w2 (HelpBB.tBB.K_below hw K1.out) (HelpI.tI.K_below hw K2.out) (HelpII.tII.K_below hw K3.out) HOK.out HBY.out
    go_enter Try.func49, Try.ntmps49
    go_wp2_with (first | ((with_reducible refine gate_dst (N := 1) rfl ?_); refine box_event ?hg (N := 1) ?hd (cs := #[.int .i64 (bn : Int), .slice A1 ls.length c1, .slice A2 K.length c2, .slice A3 Ps.length c3]) (t := 50) ?hr ?_; (case hd => rfl); (case hg => rfl); (case hr => first | (go_simp; done) | (go_simp; rfl)); intro gs hg_ w1 hbx hbb; clear hg_; have BKs := Aside0.mk hbx; have HB := Aside0.mk hbb; have hc0 : w1.cell? ⟨gs, 0, none⟩ = some (.int .i64 (bn : Int)) := (blk_cell hbx 0).trans rfl; have fhc0 := blk_frozen hbx 0; have hc1 : w1.cell? ⟨gs, 1, none⟩ = some (.slice A1 ls.length c1) := (blk_cell hbx 1).trans rfl; have fhc1 := blk_frozen hbx 1; have hc2 : w1.cell? ⟨gs, 2, none⟩ = some (.slice A2 K.length c2) := (blk_cell hbx 2).trans rfl; have fhc2 := blk_frozen hbx 2; have hc3 : w1.cell? ⟨gs, 3, none⟩ = some (.slice A3 Ps.length c3) := (blk_cell hbx 3).trans rfl; have fhc3 := blk_frozen hbx 3; clear hbx hbb) | (go_at_call 108; refine (hseg w1 HB.out).mono ?_; rintro e w2 ⟨rfl, hg2⟩; have BK2 := Aside0.mk (blk_below (g := gs) BKs.out hg2); have HG2 := Aside0.mk hg2; clear hg2; have hd0 : w2.cell? ⟨gs, 0, none⟩ = some (.int .i64 (bn : Int)) := (blk_cell BK2.out 0).trans rfl; have fhd0 := blk_frozen BK2.out 0; have hd1 : w2.cell? ⟨gs, 1, none⟩ = some (.slice A1 ls.length c1) := (blk_cell BK2.out 1).trans rfl; have fhd1 := blk_frozen BK2.out 1; have hd2 : w2.cell? ⟨gs, 2, none⟩ = some (.slice A2 K.length c2) := (blk_cell BK2.out 2).trans rfl; have fhd2 := blk_frozen BK2.out 2; have hd3 : w2.cell? ⟨gs, 3, none⟩ = some (.slice A3 Ps.length c3) := (blk_cell BK2.out 3).trans rfl; have fhd3 := blk_frozen BK2.out 3) | (go_at_call 105; refine (henc w2 (grew_trans HB.out HG2.out)).mono ?_; rintro e w3 ⟨v3, rfl, hM3, hg3⟩))
    go_ret
    refine ⟨v3, rfl, ?_, grew_trans (grew_trans HB.out HG2.out) hg3⟩
    rw [HE.out]
    exact HelpB.tB.M_lower (grew_trans HB.out HG2.out).size hM3
theorem specC (x0 : SegT) (v0 : Value) (w : World) (h0 : HelpSeg.tSeg.K w x0 v0) (s0 : HelpSeg.smallSeg x0) (hb : Bytes x0.2.1) :
    Calls Try.prog 48 #[v0] w fun e w' => ∃ v', e = .returned v' ∧ HelpB.tB.K w' (enc x0) v' ∧ Grew w w' := by
  obtain ⟨p1, p2, p3⟩ := small_parts' s0
  obtain ⟨k, hk⟩ := (enc_ev x0 hb p1 p2 p3).rounds
  obtain ⟨b, ls, K, Ps⟩ := x0
  obtain ⟨l, rfl, u0, r0, rfl, g0, u1, r1, rfl, g1, u2, r2, rfl, g2, u3, rfl, g3⟩ := h0
  have g0 : u0 = .int .i64 b := g0
  subst g0
  obtain ⟨A1, c1, rfl, hc1, hr1⟩ := g1
  obtain ⟨A2, c2, rfl, hc2, hr2⟩ := g2
  obtain ⟨A3, c3, rfl, hc3, hr3⟩ := g3
  refine (L.spec_EncodeSegment.calls k b A1 c1 ls A2 c2 K A3 c3 Ps _ w hr1 hc1 hr2 hc2 hr3 hc3 hk).mono ?_
  rintro e w' ⟨v, rfl, q1, q2⟩
  exact ⟨v, rfl, Kd.R_reads q1, q2⟩
theorem ans_small (x0 : SegT) (s0 : HelpSeg.smallSeg x0) (hb : Bytes x0.2.1) : HelpB.bdB (enc x0) ∧ HelpB.cntB (enc x0) ≤ 1099511627000 := by
  have h : (enc x0).length ≤ 250000004 := by
    unfold enc
    cases hv : valid x0 with
    | false => simp
    | true =>
      rw [if_pos rfl]
      obtain ⟨q1, q2⟩ := valid_seg hv
      exact code_len (by rw [q2]; exact encOk_seg q1 hb)
  exact ⟨Nat.le_trans h (by decide), Nat.le_trans h (by decide)⟩
end Go.Proofs.Ytmgmdnmfalepkaa.Encode
