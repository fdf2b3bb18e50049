/- impl.treeOf: the tree of a postfix list, or none: for every list of elements that reads as such. -/
import Derived.Test.YtnpmkcbbmeekaaaNodeR
import Derived.Test.YtnpmkcbbmeekaaaPCanon
import Derived.Deep.RegionHeld3
import Derived.Deep.AppendLies
import Derived.Deep.RegionLaw
namespace Go.Proofs.Ytnpmkcbbmeekaaa.Tree
open Go.RowKit Go.Proofs.YtnpmkcbbmeekaaaW.PrintWords Go.Proofs.YtnpmkcbbmeekaaaW.PrintMore Go.Proofs.Ytnpmkcbbmeekaaa.Kit Go.Proofs.Ytnpmkcbbmeekaaa.Bits Go.Proofs.Ytnpmkcbbmeekaaa.Node Go.Proofs.Ytnpmkcbbmeekaaa.Canon
set_option linter.unusedVariables false

/-- An element: its kind, set, least and greatest number. -/
abbrev Op4 := Int × List Int × Int × Int
def kOp : Kd Op4 := Kd.pair (Kd.int .i64) (Kd.pair (Kd.slice 3 (Kd.int .i64)) (Kd.pair (Kd.int .i64) (Kd.int .i64)))
theorem nodeV_one (x : Nd) : (nodeV x).oneCell' = true := by cases x <;> rfl
def kNode : Kd Nd := Kd.scalar nodeV nodeV_one
def repOk (n : Int) (mn mx : Int) : Bool := decide (1 ≤ n) && decide (0 ≤ mn) && decide (mn ≤ 250) && ((mx == -1) || (decide (mn ≤ mx) && decide (mx ≤ 250)))
def bad (o : Op4) : Bool := (o.1 != 1 && decide (0 < o.2.1.length)) || (o.1 != 4 && (o.2.2.1 != 0 || o.2.2.2 != 0))
/-- One element put onto the stack (its top is at the end). -/
def push (st : List Nd) (o : Op4) : Option (List Nd) :=
  if bad o = true then none
  else if o.1 = 0 then some (st ++ [.empty])
  else if o.1 = 1 then (if canon o.2.1 = true then some (st ++ [.set (setM 0 o.2.1)]) else none)
  else if o.1 = 2 then (if 2 ≤ st.length then some (st.take (st.length - 2) ++ [mkCat (st.getD (st.length - 2) .empty) (st.getD (st.length - 1) .empty)]) else none)
  else if o.1 = 3 then (if 2 ≤ st.length then some (st.take (st.length - 2) ++ [mkAlt (st.getD (st.length - 2) .empty) (st.getD (st.length - 1) .empty)]) else none)
  else if o.1 = 4 then (if repOk st.length o.2.2.1 o.2.2.2 = true then some (st.set (st.length - 1) (mkRep (st.getD (st.length - 1) .empty) o.2.2.1 o.2.2.2)) else none)
  else none
def fold : List Nd → List Op4 → Option (List Nd)
  | st, [] => some st
  | st, o :: r => (push st o).bind fun st' => fold st' r
/-- What treeOf answers. -/
def tree (t : List Op4) : Option Nd :=
  if t.length < 1 ∨ 3000 < t.length then none
  else (fold [] t).bind fun st => if st.length = 1 then (if size (st.getD 0 .empty) ≤ 500 then some (st.getD 0 .empty) else none) else none

theorem infoN : (Try.prog.info? 83).map (fun i => (i.zero, i.size, i.bytes)) = some (some .nilIface, 1, 16) := by kernel_rfl

theorem at_op {w : World} {A : Option Addr} {n : Nat} {xs : List Op4} (h : Kd.C kOp w A n xs) (i : Nat) (hi : i < n) : ∃ ad A1 c1, A = some ad ∧ w.cell? (ad.add (i * 4)) = some (.int .i64 (xs.getD i (0, [], 0, 0)).1) ∧
    w.cell? ⟨(ad.add (i * 4)).block, (ad.add (i * 4)).off + 1, none⟩ = some (.slice A1 (xs.getD i (0, [], 0, 0)).2.1.length c1) ∧
    w.cell? ⟨(ad.add (i * 4)).block, (ad.add (i * 4)).off + 2, none⟩ = some (.int .i64 (xs.getD i (0, [], 0, 0)).2.2.1) ∧
    w.cell? ⟨(ad.add (i * 4)).block, (ad.add (i * 4)).off + 3, none⟩ = some (.int .i64 (xs.getD i (0, [], 0, 0)).2.2.2) ∧
    (xs.getD i (0, [], 0, 0)).2.1.length ≤ c1 ∧ (Kd.int .i64).C w A1 (xs.getD i (0, [], 0, 0)).2.1.length (xs.getD i (0, [], 0, 0)).2.1 := by
  obtain ⟨ad, c, e, _, hK, hc0⟩ := Kd.C_get h (0, [], 0, 0) (i : Int) (by omega) (by omega)
  rw [Int.toNat_natCast] at hK hc0
  have hc : ∀ j u, c[j]? = some u → w.cell? (ad.add (i * 4 + j)) = some u := hc0
  obtain ⟨_, _, rfl, hk0, _, _, rfl, hk1, _, _, rfl, hk2, hk3⟩ := hK
  obtain ⟨A1, c1, e1, l1, g1⟩ := hk1
  cases hk0
  cases hk2
  cases hk3
  subst e1
  exact ⟨ad, A1, c1, e, hc 0 _ rfl, by rw [← add_field _ _ 1 (by omega)]; exact hc 1 _ rfl, by rw [← add_field _ _ 2 (by omega)]; exact hc 2 _ rfl, by rw [← add_field _ _ 3 (by omega)]; exact hc 3 _ rfl, l1, g1⟩
theorem fold_snoc (st : List Nd) (l : List Op4) (o : Op4) : fold st (l ++ [o]) = (fold st l).bind fun st' => push st' o := by
  induction l generalizing st with
  | nil =>
    simp only [List.nil_append, fold, Option.bind_some]
    cases push st o <;> rfl
  | cons x r ih =>
    simp only [List.cons_append, fold]
    cases push st x with
    | none => rfl
    | some s => exact ih s
theorem fold_take (l : List Op4) (i : Nat) (hi : i < l.length) : fold [] (l.take (i + 1)) = (fold [] (l.take i)).bind fun st' => push st' (l.getD i (0, [], 0, 0)) := by
  have e : l.take (i + 1) = l.take i ++ [l.getD i (0, [], 0, 0)] := by
    rw [List.take_succ_eq_append_getElem hi]
    simp [List.getD, List.getElem?_eq_getElem hi]
  rw [e, fold_snoc]
theorem fold_append (st : List Nd) (l r : List Op4) : fold st (l ++ r) = (fold st l).bind fun st' => fold st' r := by
  induction l generalizing st with
  | nil => rfl
  | cons x l ih =>
    simp only [List.cons_append, fold]
    cases push st x with
    | none => rfl
    | some s => exact ih s
theorem fold_cut (l : List Op4) (i : Nat) (h : fold [] (l.take i) = none) : fold [] l = none := by
  have e := fold_append [] (l.take i) (l.drop i)
  rw [List.take_append_drop, h] at e
  exact e
theorem tree_none {t : List Op4} (h : fold [] t = none) : tree t = none := by
  unfold tree
  split
  · rfl
  · rw [h]; rfl
theorem cap_bd {n : Int} (h : 0 ≤ n) : 0 ≤ cap n ∧ cap n ≤ 501 := by
  unfold cap
  split <;> omega
def Sane (st : List Nd) : Prop := ∀ x ∈ st, 0 ≤ size x ∧ size x ≤ 501
theorem Sane.get {st : List Nd} (h : Sane st) (i : Nat) : 0 ≤ size (st.getD i .empty) ∧ size (st.getD i .empty) ≤ 501 := by
  by_cases hi : i < st.length
  · exact h _ (getD_mem st .empty i hi)
  · have : st.getD i .empty = .empty := by simp [List.getD, List.getElem?_eq_none (by omega : st.length ≤ i)]
    rw [this]
    exact ⟨by decide, by decide⟩
theorem Sane.push {st : List Nd} (h : Sane st) {x : Nd} (hx : 0 ≤ size x ∧ size x ≤ 501) (n : Nat) : Sane (st.take n ++ [x]) := by
  intro y hy
  rcases List.mem_append.1 hy with hy | hy
  · exact h y (List.mem_of_mem_take hy)
  · rw [List.mem_singleton.1 hy]
    exact hx
theorem Sane.set {st : List Nd} (h : Sane st) {x : Nd} (hx : 0 ≤ size x ∧ size x ≤ 501) (n : Nat) : Sane (st.set n x) := by
  intro y hy
  rcases List.mem_or_eq_of_mem_set hy with hy | rfl
  · exact h y hy
  · exact hx
/-- What the call hands back. -/
def ans : Option Nd → Value
  | none => .tuple #[.nilIface, .bool false]
  | some x => .tuple #[nodeV x, .bool true]
theorem R_form {α : Type} {d : Kd α} {e : Nat} {w : World} {base : Nat} {ok : Nat → Prop} {v : Value} {xs : List α} {x : α} (h : d.R e w base ok v (xs ++ [x])) : ∃ g cp, v = .slice (some ⟨g, 0, none⟩) (xs ++ [x]).length cp ∧ base ≤ g := by
  obtain ⟨inner, ho⟩ := Kd.R_own h
  rcases ho.2 with ⟨_, h0⟩ | ⟨g, cp, cur, rfl, hg, _⟩
  · simp at h0
  · exact ⟨g, cp, rfl, hg⟩
theorem node_cell {w : World} {base g n cp : Nat} {ok : Nat → Prop} {st : List Nd} {e : Nat} (h : kNode.R e w base ok (.slice (some ⟨g, 0, none⟩) n cp) st) (i : Nat) (hi : i < st.length) : w.cell? ⟨g, i, none⟩ = some (nodeV (st.getD i .empty)) := by
  obtain ⟨A, c, e1, _, hC⟩ := Kd.R_reads h
  injection e1 with e1 _ _
  subst e1
  obtain ⟨ad, u, e2, hc, hK⟩ := get_one rfl hC .empty i hi
  injection e2 with e2
  subst e2
  have hu : u = nodeV (st.getD i .empty) := by
    have : [u] = [nodeV (st.getD i .empty)] := hK
    injection this
  rw [← hu, ← add_plain]
  exact hc
theorem node_free {w : World} {base g n cp : Nat} {ok : Nat → Prop} {st : List Nd} {e : Nat} (h : kNode.R e w base ok (.slice (some ⟨g, 0, none⟩) n cp) st) (i : Nat) : w.frozen? ⟨g, i, none⟩ = false := by
  obtain ⟨inner, ho⟩ := Kd.R_own h
  rcases ho.2 with ⟨h0, _⟩ | ⟨g', cp', cur, hv, _, hh, _⟩
  · cases h0
  · injection hv with hv _ _
    injection hv with hv
    injection hv with hv
    subst hv
    simp [World.frozen?, hh]
theorem node_put {w : World} {base g n cp : Nat} {ok : Nat → Prop} {st : List Nd} {e : Nat} (h : kNode.R e w base ok (.slice (some ⟨g, 0, none⟩) n cp) st) (i : Nat) (x : Nd) :
    kNode.R e (w.setCell ⟨g, i, none⟩ (nodeV x)) base ok (.slice (some ⟨g, 0, none⟩) n cp) (st.set i x) ∧ w.grownBy (w.setCell ⟨g, i, none⟩ (nodeV x)) (some g) := by
  have := Kd.R_putg (enc := nodeV) (h1 := nodeV_one) h (i : Int) x
  rwa [Int.toNat_natCast] at this
end Go.Proofs.Ytnpmkcbbmeekaaa.Tree
