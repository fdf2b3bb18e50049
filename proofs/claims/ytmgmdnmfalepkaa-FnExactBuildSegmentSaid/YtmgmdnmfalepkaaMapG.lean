import Derived.Test.YtmgmdnmfalepkaaSortI
import Derived.Test.YtmgmdnmfalepkaaIter
import Derived.Maps.OwnRows
import Derived.Maps.OwnIn
namespace Go.Proofs.Ytmgmdnmfalepkaa.MapG
open Go Go.ChangeMaps Go.ChangeShapes Go.RowKit Go.Sort Go.Maps Go.Shelf Go.Proofs.YtmgmdnmfalepkaaW.PrintWords Go.Proofs.YtmgmdnmfalepkaaW.PrintMore Go.Proofs.Ytmgmdnmfalepkaa.Kit Go.Proofs.Ytmgmdnmfalepkaa.PKit Go.Proofs.Ytmgmdnmfalepkaa.PSort
set_option linter.unusedVariables false
def dat (zs : List Int) : DataW Unit := match zs with | [] => .nil | z :: r => .slice (lits .i64 (z :: r)) []
theorem dat_cons {zs : List Int} (h : zs ≠ []) : dat zs = .slice (lits .i64 zs) [] := by
  cases zs with
  | nil => exact absurd rfl h
  | cons z r => rfl
theorem lits_inj {xs ys : List Int} (h : (lits .i64 xs : List (DataW Unit)) = lits .i64 ys) : xs = ys := by
  unfold lits at h
  exact (List.map_inj_right (fun a b e => by simpa using e)).1 h
theorem dat_inj {w : World} {base : Nat} {e : TypeId} {v : Value} {zs ys : List Int} (ho : w.ownsInts base e .i64 v zs) (h : dat ys = rowDatum (H := Unit) .i64 v zs) : zs = ys := by
  rcases ho.datum (H := Unit) with ⟨h1, h2⟩ | h1
  · rw [h1] at h
    rw [h2]
    cases ys with
    | nil => rfl
    | cons y r => cases h
  · rw [h1] at h
    cases ys with
    | nil => cases h
    | cons y r =>
      rw [dat_cons (by simp)] at h
      exact (lits_inj (by injection h)).symm
structure Grp (f : Int → List Int) (D : DataW Unit) : Prop where
  at_ : ∀ k, D.atKey (.int .i64 k) .nil = dat (f k)
  has_ : ∀ k, Maps.has D (.int .i64 k) = true ↔ f k ≠ []
  map_ : IsMap D
theorem Grp.start : Grp (fun _ => []) (.map []) := ⟨fun _ => rfl, fun k => by simp [Maps.has_eq], isMap_empty⟩
theorem Grp.put {f g : Int → List Int} {D : DataW Unit} (h : Grp f D) {k : Int} {d : DataW Unit} (hd : d = dat (g k)) (hk : g k ≠ []) (ho : ∀ j, j ≠ k → g j = f j) : Grp g (D.put (.int .i64 k) d) where
  at_ := fun j => by
    by_cases hj : j = k
    · subst hj
      rw [atKey_put_same h.map_ (by trivial), hd]
    · rw [atKey_put_other (fun e => hj (by simpa using e)), h.at_ j, ho j hj]
  has_ := fun j => by
    by_cases hj : j = k
    · subst hj
      rw [has_put_same h.map_ (by trivial)]
      simp [hk]
    · rw [has_put_other (fun e => hj (by simpa using e)), h.has_ j, ho j hj]
  map_ := h.map_.put _ _
theorem Grp.congr {f g : Int → List Int} {D : DataW Unit} (h : Grp f D) (e : ∀ k, f k = g k) : Grp g D := by
  have : f = g := funext e
  exact this ▸ h
theorem keyedI : Keyed Try.prog 3 := int_keyed Try.underlying3
theorem keyI (x : Int) (hx : -9223372036854775808 ≤ x ∧ x ≤ 9223372036854775807) : keyOf Try.prog 3 (.int .i64 x) = some (.int .i64 x) := by
  have hw : (Lit.int .i64 x).wf = true := by exact WalkArith.wf_i64 hx
  simp [keyOf, Try.underlying3, mapKey, hw]
theorem zeroR (W : World) : (zeroValue 22).run Try.prog W = .ok (.slice none 0 0) W := Try.zeroValue22 W
theorem entries {w : World} {base b n : Nat} {D : DataW Unit} (h : w.ownsGroups Try.prog 3 base 3 .i64 b n D) : ∃ Ent : Value → Value → Prop,
    (∀ (W : World) (x : Int), W.heap[b]? = w.heap[b]? → (-9223372036854775808 ≤ x ∧ x ≤ 9223372036854775807) → ∃ v zs, (Instr.lookup 104 (.map (some b)) (.int .i64 x) false).run Try.prog W = .ok v W ∧ D.atKey (.int .i64 x) .nil = rowDatum .i64 v zs ∧ w.ownsInts base 3 .i64 v zs ∧ Ent (.int .i64 x) v) ∧
    (∀ k1 v1 k2 v2, Ent k1 v1 → Ent k2 v2 → k1 ≠ k2 → ∀ g, some g = v1.ownBlock → some g = v2.ownBlock → False) := by
  obtain ⟨es, clock, hb, F, hs, rfl, hbb, hlen, hap⟩ := h
  refine ⟨fun k v => v = .slice none 0 0 ∨ ∃ e0 ∈ es.toList, e0.key = k ∧ e0.val = v, fun W x hW hx => ?_, ?_⟩
  · rcases Maps.fit_look false keyedI Try.underlying104 (zeroR W) (hW.trans hb) F (keyI x hx) with ⟨hrun, _, hat⟩ | ⟨e0, y, hm0, h3, hrun, hR, hat, _⟩
    · exact ⟨.slice none 0 0, [], hrun, hat _, World.ownsInts_nil _ _ _ _, .inl rfl⟩
    · obtain ⟨zs, ho, rfl⟩ := rowElem_inv hR
      exact ⟨e0.val, zs, hrun, hat _, ho, .inr ⟨e0, hm0, h3, rfl⟩⟩
  · rintro k1 v1 k2 v2 h1 h2 hne g hg1 hg2
    rcases h1 with rfl | ⟨e1, m1, rfl, rfl⟩
    · simp [Value.ownBlock] at hg1
    rcases h2 with rfl | ⟨e2, m2, rfl, rfl⟩
    · simp [Value.ownBlock] at hg2
    rcases hap e1 m1 e2 m2 hne with h | h
    · rw [h] at hg1
      cases hg1
    · exact h (hg1.symm.trans hg2)
theorem sorted_ord {L ss : List Int} (h : ss.Perm (ord L)) : ss.mergeSort (fun x y => decide (x ≤ y)) = ord L := by
  rw [mergeSort_of_perm_i h]
  refine List.mergeSort_of_pairwise ?_
  exact (asc_ord L).imp (fun {a b} hab => by simp only [decide_eq_true_eq]; omega)
theorem keys_perm {w : World} {R : Value → Option (DataW Unit × List MemPlace)} {b n : Nat} {D : DataW Unit} {f : Int → List Int} {L : List Int} (hown : w.ownsMap Try.prog 3 R b n D) (hD : Grp f D) (hL : ∀ k, f k ≠ [] ↔ k ∈ L) : (ord L).Perm (intKeys D) := by
  obtain ⟨es, e1, hpw, _⟩ := hown.entries keyedI
  obtain ⟨es', e2, hko⟩ := hown.keysOf
  obtain rfl : es = es' := by rw [e1] at e2; simpa using e2
  subst e1
  refine perm_intKeys hpw (fun p hp => ?_) ((asc_ord L).imp (fun {a b} hab => by intro e; omega)) (fun x => ?_)
  · obtain ⟨v, hv⟩ := hko p hp
    obtain ⟨x, _, hx, _⟩ := Maps.keyOf_i64 Try.underlying3 hv
    exact ⟨x, hx⟩
  · rw [mem_ord, hD.has_ x, hL x]
theorem sortsIn (m : Nat) : AnyZI.SortsIn Try.prog Try.sorted96_ren Fence.wide m :=
  ⟨fun blk off cap ss W hH hblk hsz => callsIn_wide.2 (Try.slices_Sort_int blk off cap ss W hH hblk hsz),
   fun p cap W => callsIn_wide.2 (Try.slices_Sort_int_none p cap W)⟩
theorem keys_calls (mb : Option Nat) (W : World) : Calls Try.prog 97 #[.map mb] W fun e w' => e = .returned (.func (.func 139) #[] #[.pointer (some ⟨W.heap.size, 0, none⟩)]) ∧ w' = W.alloc (.cells #[.map mb] 104) :=
  (callsIn_wide (n := 6)).1 (AnyZI.keys_in Try.keys97 Fence.wide 6 trivial rfl mb W)
theorem sorted_calls {R : Value → Option (DataW Unit × List MemPlace)} {b n : Nat} {D : DataW Unit} {f : Int → List Int} {L : List Int} (w : World) (hown : w.ownsMap Try.prog 3 R b n D) (hD : Grp f D) (hL : ∀ k, f k ≠ [] ↔ k ∈ L) (hn : n * 8 ≤ 140737488355328) :
    Calls Try.prog 96 #[.func (.func 139) #[] #[.pointer (some ⟨w.heap.size, 0, none⟩)]] (w.alloc (.cells #[.map (some b)] 104)) fun e w' =>
      ∃ v, e = .returned v ∧ Kd.R (Kd.int .i64) 3 w' w.heap.size (fun _ => True) v (ord L) ∧ Below w.heap.size w w' := by
  have hsz := hown.size_le
  have hown' : (w.alloc (.cells #[.map (some b)] 104)).ownsMap Try.prog 3 R b n D := hown.alloc _
  have hseq : SeqGives Fence.wide 2 Try.prog 139 #[.pointer (some ⟨w.heap.size, 0, none⟩)] encZ (fun ss => ss.Perm (intKeys D)) (Maps.size D) (w.alloc (.cells #[.map (some b)] 104)) :=
    AnyZI.keys_gives (ρ := Try.keys97_ren) { Try.keys97 with } Fence.wide _ trivial rfl (by omega) w.heap.size b n D _ (by simp) (by simp) hown'
  have cS := AnyZI.sorted_in Try.sorted96 Fence.wide 5 trivial trivial trivial trivial rfl (by omega) (sortsIn _) (enters_of Try.func75 (by kernel_rfl) rfl) 139 #[.pointer (some ⟨w.heap.size, 0, none⟩)] trivial (enters_of Try.func139 (by kernel_rfl) rfl) _ _ (by unfold maxLen; omega) (by omega) _ hseq
  change CallsIn _ _ Try.prog 96 _ _ _ at cS
  refine (callsIn_wide.1 cS).mono ?_
  rintro e w' ⟨v, ss, rfl, hS, hrow, hnil, hb⟩
  have hp : ss.Perm (ord L) := hS.trans (keys_perm hown hD hL).symm
  rw [sorted_ord hp] at hrow
  have hl : ss.length = (ord L).length := hp.length_eq
  rw [hl] at hrow
  refine ⟨v, rfl, Kd.R_of_own (ownsRow_base_a hrow (by simp)) (fun _ _ => trivial), ((Below.refl _ w).alloc (Nat.le_refl _) _).trans (hb.mono (by simp))⟩
end Go.Proofs.Ytmgmdnmfalepkaa.MapG
