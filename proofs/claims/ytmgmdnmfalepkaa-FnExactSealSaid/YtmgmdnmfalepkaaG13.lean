/- Parts of the proof (see the row's own text): SortI, Iter, MapG, StillIn, Pieces, Tri. -/
import Derived.Test.YtmgmdnmfalepkaaG2
import Derived.Test.YtmgmdnmfalepkaaG12
import Derived.Sort.OwnSortedInts
import Derived.Shelf.SlIterI.Nil
import Derived.Ground.GgzProg
import Derived.Test.YtmgmdnmfalepkaaProg
import Derived.Maps.OwnRows
import Derived.Maps.OwnIn
import Derived.StillTailTactics
import Derived.OrdersIn
import Derived.TacticsIn
import Derived.ControlIn
import Derived.Test.YtmgmdnmfalepkaaG8
import Derived.RangeFuncBound
import Derived.RangeFuncCalls
import Derived.RangeFuncLeaves
import Derived.RangeFuncBox
import Derived.Shelf.RegionOpen
import Derived.OwnWalkIn
import Derived.TacticsInMore
import Derived.LoopNIn
import Derived.LoopIn
import Derived.Test.YtmgmdnmfalepkaaG5
import Derived.RangeFuncNested
import Derived.Maps.AppendAt
namespace Go.Proofs.Ytmgmdnmfalepkaa.SortI
open Go.RowKit Go.Sort Go.Proofs.YtmgmdnmfalepkaaW.PrintWords Go.Proofs.YtmgmdnmfalepkaaW.PrintMore Go.Proofs.Ytmgmdnmfalepkaa.Kit Go.Proofs.Ytmgmdnmfalepkaa.PKit Go.Proofs.Ytmgmdnmfalepkaa.PSort
set_option linter.unusedVariables false
abbrev srt (l : List Int) : List Int := l.mergeSort fun x y => decide (x ≤ y)
theorem srt_length (l : List Int) : (srt l).length = l.length := List.length_mergeSort l
theorem encs_int (xs : List Int) : encs (Value.int .i64) xs = xs.map (Value.int .i64) := rfl
theorem R_block {w : World} {base : Nat} {ok : Nat → Prop} {v : Value} {xs : List Int} (h : Kd.R (Kd.int .i64) 3 w base ok v xs) :
    (v = .slice none 0 0 ∧ xs = []) ∨ ∃ g cap cur, v = .slice (some ⟨g, 0, none⟩) xs.length cap ∧ base ≤ g ∧ ok g ∧ w.heap[g]? = some (.cells cur 3 (0, 0)) ∧ xs.length ≤ cap ∧ cap ≤ maxLen ∧ cur.size = cap * 1 ∧ cur.toList.take xs.length = xs.map (Value.int .i64) := by
  have ho := Kd.own_of_R h
  rcases ho.2 with ⟨rfl, hn⟩ | ⟨g, cap, cur, rfl, hg, hb, h1, h2, h3, h4⟩
  · exact .inl ⟨rfl, List.eq_nil_of_length_eq_zero hn⟩
  · exact .inr ⟨g, cap, cur, rfl, hg, h.1 g rfl, hb, h1, h2, h3, by simpa [encs_int] using h4⟩
theorem sort_calls (v : Value) (xs : List Int) (base : Nat) (ok : Nat → Prop) (w : World) (h : Kd.R (Kd.int .i64) 3 w base ok v xs) (hl : xs.length < 4611686018427387904) :
    Calls Try.prog 75 #[v] w fun e w' => e = .returned (.tuple #[]) ∧ Kd.R (Kd.int .i64) 3 w' base ok v (srt xs) ∧ w.grownBy w' v.ownBlock := by
  rcases R_block h with ⟨rfl, rfl⟩ | ⟨g, cap, cur, rfl, hg, hok, hb, h1, h2, h3, h4⟩
  · refine (Try.slices_Sort_int_none none 0 w).mono ?_
    rintro e w' ⟨rfl, rfl⟩
    exact ⟨rfl, by simpa [srt] using h, World.grownBy.refl _ _⟩
  · refine (Try.slices_Sort_int g 0 cap xs w (holds_of_blockI hb h4) (Array.getElem?_eq_some_iff.1 hb).1 hl).mono ?_
    rintro e w' ⟨rfl, n, os, rfl⟩
    refine ⟨rfl, ?_, grownBy_sortedI _⟩
    have ho := ownsRow_sortedI (n := n) (os := os) (ts := srt xs) (srt_length xs) hg hb h1 h2 h3
    refine Kd.R_of_own (by rw [srt_length]; exact ho) (fun k hk => ?_)
    have : g = k := by simpa [Value.ownBlock] using hk
    subst this
    exact hok
theorem grow_nil (W : World) : grow W #[] = W := by simp [grow]
theorem compact_len (xs : List Int) : (Go.Lib.compact xs).length ≤ xs.length := by
  unfold Go.Lib.compact Go.Lib.compactUpTo
  rw [List.length_map]
  refine Nat.le_trans (List.length_filter_le _ _) ?_
  simp
theorem compact_calls (v : Value) (xs : List Int) (base : Nat) (ok : Nat → Prop) (w : World) (h : Kd.R (Kd.int .i64) 3 w base ok v xs) :
    Calls Try.prog 76 #[v] w fun e w' => ∃ v', e = .returned v' ∧ Kd.R (Kd.int .i64) 3 w' base ok v' (Go.Lib.compact xs) ∧ w.grownBy w' v.ownBlock := by
  rcases R_block h with ⟨rfl, rfl⟩ | ⟨g, cap, cur, rfl, hg, hok, hb, h1, h2, h3, h4⟩
  · refine (Try.slices_Compact_int_empty none 0 w).mono ?_
    rintro e w' ⟨rfl, rfl⟩
    exact ⟨_, rfl, Kd.R_nil _ _ _ _ _, World.grownBy.refl _ _⟩
  · refine (Try.slices_Compact_int g 0 cap xs w (holds_of_blockI hb h4) (by unfold maxLen at h2; omega) h1).mono ?_
    rintro e w' ⟨rfl, q, rfl⟩
    refine ⟨_, rfl, ?_, by have := grownBy_sortedI (w := w) (g := g) (n := q) (os := #[]) (Go.Lib.compact xs ++ List.replicate (xs.length - (Go.Lib.compact xs).length) 0).toArray; rwa [grow_nil] at this⟩
    have hcl := compact_len xs
    have hlen : (Go.Lib.compact xs ++ List.replicate (xs.length - (Go.Lib.compact xs).length) 0).length = xs.length := by simp; omega
    have ho := ownsRow_sortedI (n := q) (os := #[]) (ts := Go.Lib.compact xs ++ List.replicate (xs.length - (Go.Lib.compact xs).length) 0) hlen hg hb h1 h2 h3
    have hR : Kd.R (Kd.int .i64) 3 _ base ok (.slice (some ⟨g, 0, none⟩) xs.length cap) (Go.Lib.compact xs ++ List.replicate (xs.length - (Go.Lib.compact xs).length) 0) := Kd.R_of_own (by rw [hlen]; exact ho) (fun k hk => by
      have : g = k := by simpa [Value.ownBlock] using hk
      subst this
      exact hok)
    have ht := Kd.R_take hR (m := (Go.Lib.compact xs).length) (by rw [hlen]; exact hcl)
    rw [List.take_left' rfl, grow_nil] at ht
    exact ht
end Go.Proofs.Ytmgmdnmfalepkaa.SortI

namespace Go.Proofs
open Go.Shelf
def Try.sorted96_ren : Go.Shelf.Ren := ⟨fun | 6 => 96 | 8 => 138 | 9 => 75 | 11 => 170 | 13 => 129 | 12 => 128 | 23 => 166 | 24 => 167 | 14 => 157 | 15 => 158 | 16 => 159 | 17 => 160 | 18 => 161 | 19 => 162 | 20 => 163 | 21 => 164 | 22 => 165 | 25 => 175 | 26 => 176 | 27 => 177 | 28 => 178 | 29 => 179 | 30 => 180 | 31 => 184 | n => n, fun | 26 => 3 | 28 => 94 | 24 => 22 | 0 => 0 | 3 => 3 | 37 => 140 | 48 => 157 | 50 => 183 | 4 => 4 | 40 => 175 | 39 => 174 | 45 => 89 | 5 => 5 | 9 => 9 | 51 => 188 | 55 => 192 | 57 => 197 | 58 => 149 | 33 => 107 | n => n, fun | n => n⟩
theorem Try.sorted96 : Go.Proofs.SlLaysZI.n6 Try.prog Try.sorted96_ren := {
  mixed := by kernel_rfl
  f6 := ⟨Try.f96.name, by decide, Try.func96.trans (congrArg some (by kernel_rfl))⟩
  f8 := ⟨Try.f138.name, by decide, Try.func138.trans (congrArg some (by kernel_rfl))⟩
  f11 := ⟨Try.f170.name, by decide, Try.func170.trans (congrArg some (by kernel_rfl))⟩
  t0 := Try.underlying0
  a0 := Try.isAgg0
  z0 := Try.sizeOf0
  v0 := Try.zeroValue0
  t24 := Try.underlying22
  a24 := Try.isAgg22
  z24 := Try.sizeOf22
  v24 := Try.zeroValue22
  t26 := Try.underlying3
  a26 := Try.isAgg3
  z26 := Try.sizeOf3
  v26 := Try.zeroValue3
  t28 := Try.underlying94
  a28 := Try.isAgg94
  z28 := Try.sizeOf94
  v28 := Try.zeroValue94
  i26 := by kernel_rfl }
def Try.keys97_ren : Go.Shelf.Ren := ⟨fun | 7 => 97 | 10 => 139 | n => n, fun | 23 => 104 | 26 => 3 | 3 => 22 | 28 => 94 | 0 => 0 | 27 => 93 | 33 => 107 | 4 => 4 | n => n, fun | n => n⟩
theorem Try.keys97 : Go.Proofs.SlLaysZI.n7 Try.prog Try.keys97_ren := {
  mixed := by kernel_rfl
  f7 := ⟨Try.f97.name, by decide, Try.func97.trans (congrArg some (by kernel_rfl))⟩
  f10 := ⟨Try.f139.name, by decide, Try.func139.trans (congrArg some (by kernel_rfl))⟩
  t0 := Try.underlying0
  a0 := Try.isAgg0
  z0 := Try.sizeOf0
  v0 := Try.zeroValue0
  t4 := Try.underlying4
  a4 := Try.isAgg4
  z4 := Try.sizeOf4
  v4 := Try.zeroValue4
  t23 := Try.underlying104
  a23 := Try.isAgg104
  z23 := Try.sizeOf104
  v23 := Try.zeroValue104
  t26 := Try.underlying3
  a26 := Try.isAgg3
  z26 := Try.sizeOf3
  v26 := Try.zeroValue3
  t27 := Try.underlying93
  a27 := Try.isAgg93
  z27 := Try.sizeOf93
  v27 := Try.zeroValue93
  t28 := Try.underlying94
  a28 := Try.isAgg94
  z28 := Try.sizeOf94
  v28 := Try.zeroValue94
  t33 := Try.underlying107
  a33 := Try.isAgg107
  z33 := Try.sizeOf107
  v33 := Try.zeroValue107 }
end Go.Proofs

namespace Go.Proofs.Ytmgmdnmfalepkaa.MapG
open Go Go.ChangeMaps Go.ChangeShapes Go.RowKit Go.Sort Go.Maps Go.Shelf Go.Proofs.YtmgmdnmfalepkaaW.PrintWords Go.Proofs.YtmgmdnmfalepkaaW.PrintMore Go.Proofs.Ytmgmdnmfalepkaa.Kit Go.Proofs.Ytmgmdnmfalepkaa.PKit Go.Proofs.Ytmgmdnmfalepkaa.PSort
set_option linter.unusedVariables false
def dat (zs : List Int) : DataW Unit := match zs with | [] => .nil | z :: r => .slice (lits .i64 (z :: r)) []
theorem dat_cons {zs : List Int} (h : zs ≠ []) : dat zs = .slice (lits .i64 zs) [] := by
  cases zs with
  | nil => exact absurd rfl h
  | cons z r => rfl
theorem lits_inj {xs ys : List Int} (h : (lits .i64 xs : List (DataW Unit)) = lits .i64 ys) : xs = ys := by
  unfold lits at h
  exact (List.map_inj_right (fun a b e => by simpa using e)).1 h
theorem dat_inj {w : World} {base : Nat} {e : TypeId} {v : Value} {zs ys : List Int} (ho : w.ownsInts base e .i64 v zs) (h : dat ys = rowDatum (H := Unit) .i64 v zs) : zs = ys := by
  rcases ho.datum (H := Unit) with ⟨h1, h2⟩ | h1
  · rw [h1] at h
    rw [h2]
    cases ys with
    | nil => rfl
    | cons y r => cases h
  · rw [h1] at h
    cases ys with
    | nil => cases h
    | cons y r =>
      rw [dat_cons (by simp)] at h
      exact (lits_inj (by injection h)).symm
structure Grp (f : Int → List Int) (D : DataW Unit) : Prop where
  at_ : ∀ k, D.atKey (.int .i64 k) .nil = dat (f k)
  has_ : ∀ k, Maps.has D (.int .i64 k) = true ↔ f k ≠ []
  map_ : IsMap D
theorem Grp.start : Grp (fun _ => []) (.map []) := ⟨fun _ => rfl, fun k => by simp [Maps.has_eq], isMap_empty⟩
theorem Grp.put {f g : Int → List Int} {D : DataW Unit} (h : Grp f D) {k : Int} {d : DataW Unit} (hd : d = dat (g k)) (hk : g k ≠ []) (ho : ∀ j, j ≠ k → g j = f j) : Grp g (D.put (.int .i64 k) d) where
  at_ := fun j => by
    by_cases hj : j = k
    · subst hj
      rw [atKey_put_same h.map_ (by trivial), hd]
    · rw [atKey_put_other (fun e => hj (by simpa using e)), h.at_ j, ho j hj]
  has_ := fun j => by
    by_cases hj : j = k
    · subst hj
      rw [has_put_same h.map_ (by trivial)]
      simp [hk]
    · rw [has_put_other (fun e => hj (by simpa using e)), h.has_ j, ho j hj]
  map_ := h.map_.put _ _
theorem Grp.congr {f g : Int → List Int} {D : DataW Unit} (h : Grp f D) (e : ∀ k, f k = g k) : Grp g D := by
  have : f = g := funext e
  exact this ▸ h
theorem keyedI : Keyed Try.prog 3 := int_keyed Try.underlying3
theorem keyI (x : Int) (hx : -9223372036854775808 ≤ x ∧ x ≤ 9223372036854775807) : keyOf Try.prog 3 (.int .i64 x) = some (.int .i64 x) := by
  have hw : (Lit.int .i64 x).wf = true := by exact WalkArith.wf_i64 hx
  simp [keyOf, Try.underlying3, mapKey, hw]
theorem zeroR (W : World) : (zeroValue 22).run Try.prog W = .ok (.slice none 0 0) W := Try.zeroValue22 W
theorem entries {w : World} {base b n : Nat} {D : DataW Unit} (h : w.ownsGroups Try.prog 3 base 3 .i64 b n D) : ∃ Ent : Value → Value → Prop,
    (∀ (W : World) (x : Int), W.heap[b]? = w.heap[b]? → (-9223372036854775808 ≤ x ∧ x ≤ 9223372036854775807) → ∃ v zs, (Instr.lookup 104 (.map (some b)) (.int .i64 x) false).run Try.prog W = .ok v W ∧ D.atKey (.int .i64 x) .nil = rowDatum .i64 v zs ∧ w.ownsInts base 3 .i64 v zs ∧ Ent (.int .i64 x) v) ∧
    (∀ k1 v1 k2 v2, Ent k1 v1 → Ent k2 v2 → k1 ≠ k2 → ∀ g, some g = v1.ownBlock → some g = v2.ownBlock → False) := by
  obtain ⟨es, clock, hb, F, hs, rfl, hbb, hlen, hap⟩ := h
  refine ⟨fun k v => v = .slice none 0 0 ∨ ∃ e0 ∈ es.toList, e0.key = k ∧ e0.val = v, fun W x hW hx => ?_, ?_⟩
  · rcases Maps.fit_look false keyedI Try.underlying104 (zeroR W) (hW.trans hb) F (keyI x hx) with ⟨hrun, _, hat⟩ | ⟨e0, y, hm0, h3, hrun, hR, hat, _⟩
    · exact ⟨.slice none 0 0, [], hrun, hat _, World.ownsInts_nil _ _ _ _, .inl rfl⟩
    · obtain ⟨zs, ho, rfl⟩ := rowElem_inv hR
      exact ⟨e0.val, zs, hrun, hat _, ho, .inr ⟨e0, hm0, h3, rfl⟩⟩
  · rintro k1 v1 k2 v2 h1 h2 hne g hg1 hg2
    rcases h1 with rfl | ⟨e1, m1, rfl, rfl⟩
    · simp [Value.ownBlock] at hg1
    rcases h2 with rfl | ⟨e2, m2, rfl, rfl⟩
    · simp [Value.ownBlock] at hg2
    rcases hap e1 m1 e2 m2 hne with h | h
    · rw [h] at hg1
      cases hg1
    · exact h (hg1.symm.trans hg2)
theorem sorted_ord {L ss : List Int} (h : ss.Perm (ord L)) : ss.mergeSort (fun x y => decide (x ≤ y)) = ord L := by
  rw [mergeSort_of_perm_i h]
  refine List.mergeSort_of_pairwise ?_
  exact (asc_ord L).imp (fun {a b} hab => by simp only [decide_eq_true_eq]; omega)
theorem keys_perm {w : World} {R : Value → Option (DataW Unit × List MemPlace)} {b n : Nat} {D : DataW Unit} {f : Int → List Int} {L : List Int} (hown : w.ownsMap Try.prog 3 R b n D) (hD : Grp f D) (hL : ∀ k, f k ≠ [] ↔ k ∈ L) : (ord L).Perm (intKeys D) := by
  obtain ⟨es, e1, hpw, _⟩ := hown.entries keyedI
  obtain ⟨es', e2, hko⟩ := hown.keysOf
  obtain rfl : es = es' := by rw [e1] at e2; simpa using e2
  subst e1
  refine perm_intKeys hpw (fun p hp => ?_) ((asc_ord L).imp (fun {a b} hab => by intro e; omega)) (fun x => ?_)
  · obtain ⟨v, hv⟩ := hko p hp
    obtain ⟨x, _, hx, _⟩ := Maps.keyOf_i64 Try.underlying3 hv
    exact ⟨x, hx⟩
  · rw [mem_ord, hD.has_ x, hL x]
theorem sortsIn (m : Nat) : AnyZI.SortsIn Try.prog Try.sorted96_ren Fence.wide m :=
  ⟨fun blk off cap ss W hH hblk hsz => callsIn_wide.2 (Try.slices_Sort_int blk off cap ss W hH hblk hsz),
   fun p cap W => callsIn_wide.2 (Try.slices_Sort_int_none p cap W)⟩
theorem keys_calls (mb : Option Nat) (W : World) : Calls Try.prog 97 #[.map mb] W fun e w' => e = .returned (.func (.func 139) #[] #[.pointer (some ⟨W.heap.size, 0, none⟩)]) ∧ w' = W.alloc (.cells #[.map mb] 104) :=
  (callsIn_wide (n := 6)).1 (AnyZI.keys_in Try.keys97 Fence.wide 6 trivial rfl mb W)
theorem sorted_calls {R : Value → Option (DataW Unit × List MemPlace)} {b n : Nat} {D : DataW Unit} {f : Int → List Int} {L : List Int} (w : World) (hown : w.ownsMap Try.prog 3 R b n D) (hD : Grp f D) (hL : ∀ k, f k ≠ [] ↔ k ∈ L) (hn : n * 8 ≤ 140737488355328) :
    Calls Try.prog 96 #[.func (.func 139) #[] #[.pointer (some ⟨w.heap.size, 0, none⟩)]] (w.alloc (.cells #[.map (some b)] 104)) fun e w' =>
      ∃ v, e = .returned v ∧ Kd.R (Kd.int .i64) 3 w' w.heap.size (fun _ => True) v (ord L) ∧ Below w.heap.size w w' := by
  have hsz := hown.size_le
  have hown' : (w.alloc (.cells #[.map (some b)] 104)).ownsMap Try.prog 3 R b n D := hown.alloc _
  have hseq : SeqGives Fence.wide 2 Try.prog 139 #[.pointer (some ⟨w.heap.size, 0, none⟩)] encZ (fun ss => ss.Perm (intKeys D)) (Maps.size D) (w.alloc (.cells #[.map (some b)] 104)) :=
    AnyZI.keys_gives (ρ := Try.keys97_ren) { Try.keys97 with } Fence.wide _ trivial rfl (by omega) w.heap.size b n D _ (by simp) (by simp) hown'
  have cS := AnyZI.sorted_in Try.sorted96 Fence.wide 5 trivial trivial trivial trivial rfl (by omega) (sortsIn _) (enters_of Try.func75 (by kernel_rfl) rfl) 139 #[.pointer (some ⟨w.heap.size, 0, none⟩)] trivial (enters_of Try.func139 (by kernel_rfl) rfl) _ _ (by unfold maxLen; omega) (by omega) _ hseq
  change CallsIn _ _ Try.prog 96 _ _ _ at cS
  refine (callsIn_wide.1 cS).mono ?_
  rintro e w' ⟨v, ss, rfl, hS, hrow, hnil, hb⟩
  have hp : ss.Perm (ord L) := hS.trans (keys_perm hown hD hL).symm
  rw [sorted_ord hp] at hrow
  have hl : ss.length = (ord L).length := hp.length_eq
  rw [hl] at hrow
  refine ⟨v, rfl, Kd.R_of_own (ownsRow_base_a hrow (by simp)) (fun _ _ => trivial), ((Below.refl _ w).alloc (Nat.le_refl _) _).trans (hb.mono (by simp))⟩
end Go.Proofs.Ytmgmdnmfalepkaa.MapG

namespace Go.Proofs.Ytmgmdnmfalepkaa.StillIn
open Go
variable {m : Nat} {P : Program} {ops : Array Oper} {md : Region.Mode} {w : World}
theorem wpIn_of_still {o : Oper} {a : Act} {K : Act → Prop} {K' : Act → World → Prop} {Q' : Exit → Act → World → Prop} (h : ∀ a, K a → K' a w) (hh : o.still P a w K) : o.wpIn Fence.wide m P a w K' Q' := by
  unfold Oper.still at hh
  unfold Oper.wpIn
  refine ⟨fun _ _ => trivial, ?_⟩
  simp only [Fence.wide_round, Oper.semAt_none]
  generalize (execOp a.eval o).run P w = r at *
  cases r with
  | ok nx w' =>
    cases nx <;> simp only [Oper.stillUpon] at hh <;> simp only [Oper.uponIn]
    case enter f args =>
      obtain ⟨rfl, v, hc, hn⟩ := hh
      refine ⟨(fun hd => by cases hd), callsIn_wide.2 (hc.mono fun e w'' ⟨he, hw⟩ => ?_)⟩
      subst he
      subst hw
      exact h _ hn
    all_goals (obtain ⟨rfl, h2⟩ := hh; exact h _ h2)
  | halt x w' => simp only [Oper.stillUpon] at hh
theorem wpOpIn_of_stOp {i : Nat} {a : Act} {K : Act → Prop} {K' : Act → World → Prop} {Q' : Exit → Act → World → Prop} (h : ∀ a, K a → K' a w) (hh : stOp P ops w i K a) : wpOpIn Fence.wide m P ops Q' i K' a w := by
  unfold stOp at hh
  unfold wpOpIn
  split
  · rename_i ho
    simp only [ho] at hh
    exact h _ hh
  · rename_i o ho
    simp only [ho] at hh
    split
    · rename_i hw
      simp only [hw, if_true] at hh
      exact wpIn_of_still h hh
    · rename_i hw
      simp only [hw] at hh
      exact ⟨fun _ _ => trivial, h _ hh⟩
theorem wpAnyIn_of_head {n g : Nat} {L : Array Bool → Act → Prop} {Q' : Exit → Act → World → Prop} (hL : ∀ listed a, L listed a → wpAnyIn Fence.wide m P md ops Q' g listed a w) :
    ∀ (f : Nat) (listed : Array Bool) (a : Act), wpAnyL P md ops w n L f listed a → wpAnyIn Fence.wide m P md ops Q' (f + g) listed a w
  | 0, listed, a, h => by rw [Nat.zero_add]; exact hL _ _ h
  | f + 1, listed, a, h => by
    rw [show f + 1 + g = (f + g) + 1 by omega]
    exact ⟨fun h0 => absurd h0 h.1, fun i hi => wpOpIn_of_stOp (fun a' h' => wpAnyIn_of_head hL f _ a' h') (h.2 i hi).2⟩
theorem wpAnyIn_of_seq {Q' : Exit → Act → World → Prop} : ∀ (l : List Oper) (k : Nat) (listed : Array Bool) (a : Act) (w : World), (∀ j : Nat, l[j]? = ops[k + j]?) →
    Region.seqB md ops l.length k listed = true → wpListIn Fence.wide m P ops Q' l a w → wpAnyIn Fence.wide m P md ops Q' l.length listed a w
  | [], _, _, _, _, _, hB, h => ⟨by simpa [Region.seqB] using hB, h⟩
  | o :: l, k, listed, a, w, hl, hB, h => by
    have h0 : ops[k]? = some o := by simpa using (hl 0).symm
    simp only [List.length_cons, Region.seqB, Bool.and_eq_true, decide_eq_true_eq] at hB
    refine ⟨fun h1 => (by rw [hB.1] at h1; cases h1), fun i hi => ?_⟩
    rw [hB.1] at hi
    have hik : i = k := by simpa using hi
    subst hik
    have hw : wpOpIn Fence.wide m P ops Q' i (wpListIn Fence.wide m P ops Q' l) a w := by unfold wpOpIn; simp only [h0]; exact h
    exact wpOpIn_mono (fun a' w' h' => wpAnyIn_of_seq l (i + 1) _ a' w' (fun j => by have := hl (j + 1); simpa [Nat.add_assoc, Nat.add_comm 1 j] using this) hB.2 h') hw
theorem wpIn_region_still_tail {id : Nat} {Q : Exit → Act → World → Prop} {a : Act} {w : World} {l : List Oper} (n : Nat) (hm : P.follows .mixedOrders = true) (hB : Region.lexTailB .any l.toArray n = true)
    (h : wpStill P l.toArray w.drew (fun a' => wpListIn Fence.wide m P l.toArray Q (l.drop n) a' w.drew) (l.take n) a) : (Code.region id l.toArray true).wpIn Fence.wide m P Q a w := by
  simp only [Region.lexTailB, Bool.and_eq_true, decide_eq_true_eq] at hB
  obtain ⟨⟨⟨⟨hsel, hn⟩, hs⟩, hc⟩, hlex⟩ := hB
  have hn' : n < l.length := by simpa using hn
  have htl : (l.take n).length = n := by simp; omega
  have hdl : (l.drop n).length = l.toArray.size - n := by simp
  have inv0 : HeadInv .any l.toArray n (Array.replicate l.toArray.size false) :=
    ⟨by simp, fun j oj _ hl => (by rw [getD_replicate_false] at hl; cases hl), fun t _ ht => getD_in (by simpa using ht) (getD_replicate_false _ _)⟩
  have H := wpAnyL_lex (md := .any) (g := l.toArray.size - n) hsel hs hc hn (l.take n) 0 _ a (fun j hj => by
    have hj' : j < n := by rw [htl] at hj; exact hj
    simp [hj']) (by simpa using htl) inv0 (by rw [htl]; exact hlex) h
  refine wpIn_region_any hm ?_
  have := wpAnyIn_of_head (m := m) (Q' := Q) (g := l.toArray.size - n) (fun listed a' hL => by
    have := wpAnyIn_of_seq (m := m) (md := .any) (Q' := Q) (l.drop n) n listed a' w.drew (fun j => by simp [List.getElem?_drop]) (by rw [hdl]; exact hL.1) hL.2
    rwa [hdl] at this) _ _ _ H
  rw [htl, show n + (l.toArray.size - n) = l.toArray.size by omega] at this
  exact this
end Go.Proofs.Ytmgmdnmfalepkaa.StillIn

namespace Go.Proofs.Ytmgmdnmfalepkaa.Pieces
open Go.RowKit Go.Shelf Go.Proofs.YtmgmdnmfalepkaaW.PrintWords Go.Proofs.YtmgmdnmfalepkaaW.PrintMore Go.Proofs.Ytmgmdnmfalepkaa.Kit Go.Proofs.Ytmgmdnmfalepkaa.PKit Go.Proofs.Ytmgmdnmfalepkaa.PTri
set_option linter.unusedVariables false
attribute [local go_sem] Oper.semAt_some
def Keeps (n₀ B : Nat) (W W' : World) : Prop := Below n₀ W W' ∧ W'.heap[B]? = W.heap[B]?
theorem Keeps.refl (n₀ B : Nat) (W : World) : Keeps n₀ B W W := ⟨Below.refl _ _, rfl⟩
theorem Keeps.trans {n₀ B : Nat} {X Y Z : World} (h : Keeps n₀ B X Y) (k : Keeps n₀ B Y Z) : Keeps n₀ B X Z := ⟨h.1.trans k.1, k.2.trans h.2⟩
theorem Keeps.turn {n₀ B : Nat} {w : World} (hn : n₀ ≤ w.heap.size) (hB : B < w.heap.size) (W : World) (l : Nat) (o o' : Obj) (hl : w.heap.size ≤ l) (h : W.heap[l]? = some o) (h1 : o.isCells = false) (h2 : o.isWalk = false) : Keeps n₀ B W (W.putObj l o') :=
  ⟨belowK_b hn W l o o' hl h h1 h2, World.putObj_heap_other (by omega)⟩
theorem or_i64 (i : Nat) (x y : Int) (hx0 : 0 ≤ x) (hx : x % 2 ^ i = 0) (hx1 : x < 4294967296) (hy0 : 0 ≤ y) (hy : y < 2 ^ i) (hy1 : y < 4294967296) : bits .or .i64 x y = x + y :=
  bits_join .i64 32 (by decide) (fun n h0 h1 => by rw [IntKind.wrap_i64]; simp at h1; omega) i x y hx0 hx (by simpa using hx1) hy0 hy (by simpa using hy1)
theorem or_tri (l : List Int) (hb : ∀ x ∈ l, 0 ≤ x ∧ x ≤ 255) (k : Nat) : bits .or .i64 (bits .or .i64 (l.getD k 0 * 65536) (l.getD (k + 1) 0 * 256)) (l.getD (k + 2) 0) = tri l k := by
  have h0 := getD_bd l hb k
  have h1 := getD_bd l hb (k + 1)
  have h2 := getD_bd l hb (k + 2)
  rw [or_i64 16 _ (l.getD (k + 1) 0 * 256) (by omega) (by show _ % (65536 : Int) = 0; omega) (by omega) (by omega) (by show _ < (65536 : Int); omega) (by omega)]
  rw [or_i64 8 _ _ (by omega) (by show _ % (256 : Int) = 0; omega) (by omega) (by omega) (by show _ < (256 : Int); omega) (by omega)]
  rfl
theorem drew_grown (W : World) : W.grownBy W.drew none := ⟨rfl, rfl, rfl, Nat.le_refl _, fun _ _ _ => rfl⟩
theorem drew_keeps {n₀ B : Nat} {X Y : World} (h : Keeps n₀ B X Y) : Keeps n₀ B X Y.drew := ⟨below_drew h.1, h.2⟩
set_option maxRecDepth 100000 in
set_option maxHeartbeats 4000000 in
theorem pieces1_in (n : Nat) (l Bs n₀ : Nat) (A : Option Addr) (cap : Nat) (zs : List Int) (hb : ∀ x ∈ zs, 0 ≤ x ∧ x ≤ 255) (hl : zs.length ≤ 1048576) (J Jx : List Int → World → Prop)
    (hY : ∀ pre x W, J pre W → pre.length < zs.length - 2 → YieldAt Fence.wide (n - 1) Try.prog l #[.int .i64 x] W fun e W' =>
      (e = .returned (.bool true) ∧ J (pre ++ [x]) W' ∧ Keeps n₀ Bs W W') ∨ (e = .returned (.bool false) ∧ Jx (pre ++ [x]) W'))
    (w0 W : World) (hn₀ : n₀ ≤ W.heap.size) (hJ : AbidesFrom W.heap.size J) (hBs : Boxed W Bs 33 (.slice A zs.length cap)) (hr : Kd.C (Kd.int .u8) W A zs.length zs) (hA : 0 < zs.length → ∀ ad, A = some ad → ad.block < n₀) (h0 : J [] W) :
    CallsIn Fence.wide n Try.prog 127 #[.func (.yield l) #[] #[], .pointer (some ⟨Bs, 0, none⟩)] W fun e W' => (∃ v, e = .returned v) ∧
      ((∃ ys, ys = tris zs ∧ J ys W') ∨ (∃ pre, Jx pre W')) := by
  have HJ := Aside0.mk hJ
  have HR := Aside0.mk hr
  have HBD := Aside0.mk hb
  have HY := Aside0.mk hY
  have HBX := Aside0.mk hBs
  have hc := hBs.cell
  clear hJ hr hb hY hBs
  refine callsIn_of_wp Try.func127 rfl trivial ?_ rfl
  simp only [Try.ntmps127, List.size_toArray, List.length_cons, List.length_nil, Nat.reduceAdd, Nat.reduceSub, Array.replicate_succ, Array.replicate_zero, List.push_toArray, List.append_toArray, List.nil_append, List.cons_append]
  gi_wp2
  gi_loopw [3] (fun i wr => ∃ k : Nat, k ≤ zs.length - 2 ∧ i = .int .i64 k ∧ Aside0 (J (upto (tri zs) k) wr) ∧ Aside0 (Keeps n₀ Bs W wr))
    (fun i _ => zs.length - (intOf i).toNat)
  case atStart => exact ⟨0, Nat.zero_le _, rfl, ⟨h0⟩, ⟨Keeps.refl _ _ _⟩⟩
  case round =>
    obtain ⟨k, hk, rfl, HJS, HK⟩ := hrel
    have hbx : wr.cell? ⟨Bs, 0, none⟩ = some (.slice A zs.length cap) := Boxed.cell (HK.out.2.trans HBX.out)
    by_cases hlt : k + 3 ≤ zs.length
    · have hz1 : (k : Int) + 3 ≤ (zs.length : Int) := by omega
      have q0 : (0 : Int) ≤ (k : Int) := by omega
      have q1 : (k : Int) < (zs.length : Int) := by omega
      have q2 : (k : Int) + 1 < (zs.length : Int) := by omega
      have q3 : (k : Int) + 2 < (zs.length : Int) := by omega
      obtain ⟨ad, rfl, hcell⟩ := HR.out.2.2 (by omega)
      have hcl : ∀ j, j < zs.length → wr.cell? (ad.add j) = some (.int .u8 (zs.getD j 0)) := fun j hj => by
        obtain ⟨c, _, hK, hc1⟩ := hcell j (zs.getD j 0) (by simp [List.getD, List.getElem?_eq_getElem hj])
        have hK' : c = [.int .u8 (zs.getD j 0)] := hK
        subst hK'
        have h2 := hc1 0 _ rfl
        have h3 : W.cell? (ad.add j) = some (.int .u8 (zs.getD j 0)) := by simpa [Kd.int, Kd.scalar] using h2
        have hlt2 : (ad.add j).block < n₀ := by have := hA (by omega) ad rfl; unfold Addr.add; split <;> simpa using this
        exact (HK.out.1.cell (p := ad.add j) hlt2).trans h3
      have c0 := hcl k (by omega)
      have c1 := hcl (k + 1) (by omega)
      have c2 := hcl (k + 2) (by omega)
      have b0 := getD_bd zs HBD.out k
      have b1 := getD_bd zs HBD.out (k + 1)
      have b2 := getD_bd zs HBD.out (k + 2)
      have HO := Aside0.mk (or_tri zs HBD.out k)
      clear hcl hcell
      generalize zs.getD k 0 = x0 at c0 b0 HO
      generalize zs.getD (k + 1) 0 = x1 at c1 b1 HO
      generalize zs.getD (k + 2) 0 = x2 at c2 b2 HO
      have c1' : wr.cell? { block := ad.block, off := ad.off + (k + 1) } = some (.int .u8 x1) := by simpa [Addr.add] using c1
      have c2' : wr.cell? { block := ad.block, off := ad.off + (k + 2) } = some (.int .u8 x2) := by simpa [Addr.add] using c2
      obtain ⟨b00, b01⟩ := b0
      obtain ⟨b10, b11⟩ := b1
      obtain ⟨b20, b21⟩ := b2
      have HJ2 : J (upto (tri zs) k) wr.drew := HJ.out _ wr wr.drew none HJS.out (drew_grown wr) (fun r e => by cases e)
      obtain ⟨fn, tmps, assign, body, hy, hR⟩ := HY.out _ (tri zs k) wr.drew HJ2 (by rw [upto_length]; omega)
      have hor := HO.out
      gi_wp2
      have W1 := IntWalk.i64_in ((k : Int) + 1) (by omega)
      have W2 := IntWalk.i64_in ((k : Int) + 2) (by omega)
      have E0 := IntWalk.i64_in x0 (by omega)
      have E1 := IntWalk.i64_in x1 (by omega)
      have E2 := IntWalk.i64_in x2 (by omega)
      have M0 := IntWalk.i64_in (x0 * 65536) (by omega)
      have M1 := IntWalk.i64_in (x1 * 256) (by omega)
      have P1 : (0 : Int) ≤ (k : Int) + 1 := by omega
      have P2 : (0 : Int) ≤ (k : Int) + 2 := by omega
      have T1 : ((k : Int) + 1).toNat = k + 1 := by omega
      have T2 : ((k : Int) + 2).toNat = k + 2 := by omega
      refine StillIn.wpIn_region_still_tail 22 (by kernel_rfl) (by kernel_rfl) ?_
      simp only [List.take_succ_cons, List.take_zero, List.drop_succ_cons, List.drop_zero]
      repeat still_step
      refine wpStill_nil ?_
      clear W1 W2 E0 E1 E2 M0 M1 P1 P2 T1 T2
      gi_wp2
      refine ⟨(fun h => by cases h), ?_⟩
      refine hR.mono ?_
      rintro e W3 (⟨rfl, hJ3, hk3⟩ | ⟨rfl, hJx3⟩)
      · have HJ3 := Aside0.mk hJ3
        have HK3 := Aside0.mk hk3
        clear hJ3 hk3
        gi_wp2
        go_roundw
        case rel => exact ⟨k + 1, by omega, by go_num, ⟨by rw [upto_succ]; exact HJ3.out⟩, ⟨(drew_keeps HK.out).trans HK3.out⟩⟩
        case measure => simp [intOf]; omega
      · gi_wp2
        refine bodyPost_ret (results_none rfl _ _ _) rfl ?_
        exact ⟨⟨_, rfl⟩, .inr ⟨_, hJx3⟩⟩
    · have hz1 : ¬ (k : Int) + 3 ≤ (zs.length : Int) := by omega
      have hke : k = zs.length - 2 := by omega
      gi_wp2
      go_end0
      exact ⟨⟨_, rfl⟩, .inl (by have := HJS.out; rw [hke] at this; exact this)⟩
end Go.Proofs.Ytmgmdnmfalepkaa.Pieces

namespace Go.Proofs.Ytmgmdnmfalepkaa.Tri
open Go.RowKit Go.Shelf Go.Proofs.YtmgmdnmfalepkaaW.PrintWords Go.Proofs.YtmgmdnmfalepkaaW.PrintMore Go.Proofs.Ytmgmdnmfalepkaa.Kit Go.Proofs.Ytmgmdnmfalepkaa.PKit Go.Proofs.Ytmgmdnmfalepkaa.PTri Go.Proofs.Ytmgmdnmfalepkaa.PSort Go.Proofs.Ytmgmdnmfalepkaa.SortI Go.Proofs.Ytmgmdnmfalepkaa.Pieces Go.Proofs.Ytmgmdnmfalepkaa.Ty
set_option linter.unusedVariables false
attribute [local go_sem] Oper.semAt_some
theorem infoI : (Try.prog.info? 3).map (fun i => (i.zero, i.size, i.bytes)) = some (some (.int .i64 0), 1, 8) := by kernel_rfl
theorem pieces_in (n : Nat) (A : Option Addr) (len cap : Nat) (w : World) :
    CallsIn Fence.wide n Try.prog 74 #[.slice A len cap] w fun e w' => e = .returned (.func (.func 127) #[] #[.pointer (some ⟨w.heap.size, 0, none⟩)]) ∧ w' = w.alloc (.cells #[.slice A len cap] 33) := by
  refine callsIn_of_wp Try.func74 rfl trivial ?_ rfl
  simp only [Try.ntmps74, List.size_toArray, List.length_cons, List.length_nil, Nat.reduceAdd, Nat.reduceSub, Array.replicate_succ, Array.replicate_zero, List.push_toArray, List.append_toArray, List.nil_append, List.cons_append]
  gi_wp2
  go_ret
  exact ⟨rfl, rfl⟩
theorem pieces_stops (n : Nat) (Bs n₀ : Nat) (A : Option Addr) (cap : Nat) (zs : List Int) (hb : ∀ x ∈ zs, 0 ≤ x ∧ x ≤ 255) (hl : zs.length ≤ 1048576) (w : World) (hn₀ : n₀ ≤ w.heap.size) (hBs : Boxed w Bs 33 (.slice A zs.length cap))
    (hr : Kd.C (Kd.int .u8) w A zs.length zs) (hA : 0 < zs.length → ∀ ad, A = some ad → ad.block < n₀) :
    SeqStopsK Fence.wide n Try.prog 127 #[.pointer (some ⟨Bs, 0, none⟩)] (fun x : Int => #[Value.int .i64 x]) (Keeps n₀ Bs) (fun ys => ys = tris zs) (fun _ => True) (zs.length - 2) w := fun l J Jx W hW hJ _ hY h0 => by
  refine (pieces1_in n l Bs n₀ A cap zs hb hl J Jx hY w W (Nat.le_trans hn₀ hW.size) hJ ((hW.block Bs hBs.lt).trans hBs) (Kd.C_below hr hW) hA h0).mono ?_
  rintro e W' ⟨h1, h2⟩
  refine ⟨h1, ?_⟩
  rcases h2 with h2 | ⟨pre, h2⟩
  · exact .inl h2
  · exact .inr ⟨pre, trivial, h2⟩
theorem block_lt {w : World} {A : Option Addr} {n : Nat} {zs : List Int} (h : Kd.C (Kd.int .u8) w A n zs) (hn : 0 < n) : ∀ ad, A = some ad → ad.block < w.heap.size := by
  obtain ⟨ad, rfl, hc⟩ := h.2.2 hn
  rintro ad' ⟨⟩
  obtain ⟨c, _, hK, hcell⟩ := hc 0 (zs.getD 0 0) (by have := h.1; simp [List.getD, List.getElem?_eq_getElem (show 0 < zs.length by omega)])
  have hK' : c = [.int .u8 (zs.getD 0 0)] := hK
  subst hK'
  have := World.block_lt_of_cell? w _ (hcell 0 _ rfl)
  simpa [Addr.add] using this
theorem own_not_other {w : World} {base : Nat} {e : TypeId} {size n : Nat} {v : Value} {xs : List Value} (h : w.ownsRow base e size v n xs) {D : Nat} {o : Obj} (hD : w.heap[D]? = some o) (ho : o.isCells = false) : some D ≠ v.ownBlock := by
  rcases h.2 with ⟨rfl, _⟩ | ⟨g, cap, cur, rfl, _, hgb, _⟩
  · simp [Value.ownBlock]
  · intro e'
    obtain rfl : D = g := by simpa [Value.ownBlock] using e'
    rw [hgb] at hD
    cases hD
    cases ho
set_option maxRecDepth 100000 in
set_option maxHeartbeats 4000000 in
theorem tri_calls (A : Option Addr) (cap : Nat) (zs : List Int) (w : World) (hr : Kd.C (Kd.int .u8) w A zs.length zs) (hc : zs.length ≤ cap) (hb : ∀ x ∈ zs, 0 ≤ x ∧ x ≤ 255) (hl : zs.length ≤ 1048576) :
    Calls Try.prog 21 #[.slice A zs.length cap] w fun e w' => ∃ v, e = .returned v ∧ Kd.R (Kd.int .i64) 3 w' w.heap.size (fun _ => True) v (ord (tris zs)) ∧ Grew w w' := by
  refine (callsIn_wide (n := 6)).1 ?_
  obtain ⟨i0, hi, hz0, hz1, hz2⟩ := info_parts infoI
  have HR := Aside0.mk hr
  have HBD := Aside0.mk hb
  clear hr hb
  refine callsIn_of_wp_marks Try.func21 rfl trivial ?_ rfl
  simp only [Try.ntmps21, List.size_toArray, List.length_cons, List.length_nil, Nat.reduceAdd, Nat.reduceSub, Array.replicate_succ, Array.replicate_zero, List.push_toArray, List.append_toArray, List.nil_append, List.cons_append]
  gi_wp2_with (refine ⟨trivial, ?_⟩; gi_at_call 74; refine (pieces_in _ _ _ _ _).mono ?_; rintro e w' ⟨rfl, rfl⟩)
  have bO := Boxed.new (w.alloc (.cells #[] 3)) 22 (.slice (some ⟨w.heap.size, 0, none⟩) 0 0)
  have bL := Boxed.new ((w.alloc (.cells #[] 3)).alloc (.cells #[.slice (some ⟨w.heap.size, 0, none⟩) 0 0] 22)) 33 (.slice A zs.length cap)
  simp only [World.size_alloc] at bO bL
  have hrow0 : (w.alloc (.cells #[] 3)).ownsRow w.heap.size 3 1 (.slice (some ⟨w.heap.size, 0, none⟩) 0 0) 0 [] := ⟨rfl, .inr ⟨w.heap.size, 0, #[], rfl, Nat.le_refl _, heap_alloc_new w _, by simp, by simp [maxLen], rfl, rfl⟩⟩
  obtain ⟨W0, hW0⟩ : ∃ W0, ((w.alloc (.cells #[] 3)).alloc (.cells #[.slice (some ⟨w.heap.size, 0, none⟩) 0 0] 22)).alloc (.cells #[.slice A zs.length cap] 33) = W0 := ⟨_, rfl⟩
  have hsz : W0.heap.size = w.heap.size + 1 + 1 + 1 := by rw [← hW0]; simp
  have hB0 : Below w.heap.size w W0 := by rw [← hW0]; exact ((((Below.refl _ w).alloc (Nat.le_refl _) _).alloc (by simp) _).alloc (by simp; omega) _)
  have bO0 : Boxed W0 (w.heap.size + 1) 22 (.slice (some ⟨w.heap.size, 0, none⟩) 0 0) := by rw [← hW0]; exact bO.alloc _
  have hrow : W0.ownsRow w.heap.size 3 1 (.slice (some ⟨w.heap.size, 0, none⟩) 0 0) 0 [] := by rw [← hW0]; exact (hrow0.alloc _).alloc _
  rw [hW0] at bL ⊢
  clear hW0 bO hrow0
  refine wpIn_rangeFunc_ownG rfl (by omega) (gf := 127) (lb := #[.pointer (some ⟨w.heap.size + 1 + 1, 0, none⟩)]) rfl trivial (enters_of Try.func127 (by kernel_rfl) rfl)
    (pieces_stops _ (w.heap.size + 1 + 1) w.heap.size A cap zs HBD.out hl W0 (by omega) bL (Kd.C_below HR.out hB0) (fun hp => block_lt HR.out hp)) (Keeps.trans) (Keeps.turn (by omega) (by omega)) (Below.refl _ _) (fun _ => rfl)
    (fun pre W => (∃ v, Boxed W (w.heap.size + 1) 22 v ∧ W.ownsRow w.heap.size 3 1 v pre.length (pre.map (Value.int .i64)) ∧ True) ∧ Below w.heap.size w W ∧ Boxed W (w.heap.size + 1 + 1) 33 (.slice A zs.length cap))
    (fun _ _ _ => False)
    (OwnFrom.and (Own.from (holdsRow_own w.heap.size (w.heap.size + 1) 22 3 1 (fun (pre : List Int) => pre.length) (fun pre => pre.map (Value.int .i64)) (fun _ _ => True)) _) (OwnFrom.and (ownFrom_below (Nat.le_refl _) (by omega)) (Own.from (boxed_own (w.heap.size + 1 + 1) 33 (fun _ => .slice A zs.length cap)) _)))
    (fun _ _ _ _ _ hs _ _ => hs)
    ⟨⟨_, bO0, hrow, trivial⟩, hB0, bL⟩
    (fun x => { tmps := #[.slice A zs.length cap, undef, .slice none 0 0, .pointer (some ⟨w.heap.size + 1, 0, none⟩), .int .i64 x, .slice (some ⟨w.heap.size, 0, none⟩) 0 0, .slice A zs.length cap, .func (.func 127) #[] #[.pointer (some ⟨w.heap.size + 1 + 1, 0, none⟩)], .int .i64 x, undef, undef, undef, undef, undef, undef, undef, undef], defers := [] }) ?assign ?body ?done ?stop
  case assign =>
    intro l x W K hK
    gi_wp2
    exact hK
  case body =>
    rintro l pre x W ⟨⟨v, hv, hrow, _⟩, hB, hbL⟩ hlt
    have hc := hv.cell
    gi_wp2_with (gi_at_builtin; refine wpListIn_append_own _ rfl _ _ 22 rfl w.heap.size 3 i0 (.int .i64 0) 1 8 Try.underlying22 hi hz0 hz1 hz2 rfl (by decide) _ _ _ rfl (hrow.alloc _) ⟨W.heap.size, 0, none⟩ 1 1 [.int .i64 x] rfl rfl (cell_one_new _ _ _) (by simp [Value.oneCell']) (by unfold maxLen; omega) (by omega) (by have := hB.size; simp; omega) ?_; intro v' w1 hown' hgrow _; obtain ⟨g', cap', rfl⟩ := ownsRow_succ hown'; obtain ⟨hv1, hv2, hr2, hk2, hb2⟩ := hv.appended (by decide) hrow hB.size (by omega) hown' hgrow; have hc1 := hv1.cell; have hf1 := hv1.frozen)
    have hbL1 : Boxed w1 (w.heap.size + 1 + 1) 33 (.slice A zs.length cap) := (hbL.alloc _).kept hgrow (hbL.not_row (by decide) hrow)
    have hbL2 := hbL1.other (B' := w.heap.size + 1) (by omega) (.slice (some ⟨g', 0, none⟩) (pre.length + 1) cap')
    exact ⟨hk2.from _, ⟨hb2, hbL2.trans hbL.symm⟩, ⟨_, hv2, by simpa using hr2, trivial⟩, hB.trans hb2, hbL2⟩
  case done =>
    rintro D ys W hD rfl ⟨⟨v, hv, hrow, _⟩, hB, hbL⟩ hK
    have hc := hv.cell
    have hR : Kd.R (Kd.int .i64) 3 W w.heap.size (fun _ => True) v (tris zs) := Kd.R_of_own hrow (fun _ _ => trivial)
    have htl := tris_length zs
    gi_wp2_with (first | (refine ⟨trivial, ?_⟩; gi_at_call 75; refine (callsIn_wide.2 (sort_calls v _ _ _ _ hR (by omega))).mono ?_; rintro e W2 ⟨rfl, hR2, hg2⟩; have hv2 := hv.kept hg2 (hv.not_row (by decide) hrow); have hc2 := hv2.cell) | (refine ⟨trivial, ?_⟩; gi_at_call 76; refine (callsIn_wide.2 (compact_calls v _ _ _ _ hR2)).mono ?_; rintro e W3 ⟨v3, rfl, hR3, hg3⟩))
    have hne := own_not_other hrow hK rfl
    have hlt : D < W.heap.size := (Array.getElem?_eq_some_iff.1 hK).1
    have hK2 : W2.heap[D]? = some (.deferred (some [])) := (hg2.block D hlt hne).trans hK
    have hK3 : W3.heap[D]? = some (.deferred (some [])) := (hg3.block D (Nat.lt_of_lt_of_le hlt hg2.size) hne).trans hK2
    have hB2 := hB.grown hg2 hB.size (own_base hrow)
    have hB3 := hB2.grown hg3 hB2.size (own_base hrow)
    refine ⟨by simp, .inl ⟨_, _, rfl, run_takeDeferred hK3, ?_⟩⟩
    obtain ⟨inner, ho3⟩ := Kd.R_own hR3
    refine ⟨_, results_tmp rfl _ _ _, _, rfl, ?_, hB3.trans (belowK_b (w := w) (Nat.le_refl _) W3 D _ _ (by omega) hK3 rfl rfl)⟩
    rw [← sort_compact]
    exact Kd.R_grown1 hR3 rfl (grownBy_putObj' W3 D _) (own_not_other ho3 hK3 rfl)
  case stop =>
    rintro D c pre W _ _ h _
    exact h.elim
end Go.Proofs.Ytmgmdnmfalepkaa.Tri
