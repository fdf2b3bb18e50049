/- Parts of the proof (see the row's own text): PDraw, PDrawB, PDec, PSta, Lszt, HelpSta, Shelf, BuildA, PSort, SortI, Iter, MapG, StillIn. -/
import Derived.Test.YtmgmdnmfalepkaaG00
import Derived.Test.YtmgmdnmfalepkaaG2
import Derived.Test.YtmgmdnmfalepkaaG8
import Derived.Test.YtmgmdnmfalepkaaG10
import Derived.Test.YtmgmdnmfalepkaaG11
import Derived.Test.YtmgmdnmfalepkaaG9
import Derived.Test.YtmgmdnmfalepkaaG4
import Derived.Test.YtmgmdnmfalepkaaG6
import Derived.Shelf.Small.Bits
import Derived.Shelf.Small.Wraps
import Derived.Shelf.Strconv.Itoa0
import Derived.Shelf.Sort.Plain
import Derived.Shelf.Slices.Equal
import Derived.Ground.Names2Prog
import Derived.Shelf.Slices.Clone
import Derived.Shelf.Slices.CompactI
import Derived.Shelf.Slices.SearchI
import Derived.Shelf.Slices.Cells
import Derived.Shelf.Slices.In.SortNone
import Derived.Shelf.Bytes.SlIndexAt
import Derived.Shelf.Slices.Empties2
import Derived.Shelf.Bytes.SlSearch0
import Derived.Ground.SlgnProg
import Derived.Shelf.SlicesE.Clone
import Derived.Shelf.Bytes.SlEqualAll
import Derived.Shelf.Bytes.Small
import Derived.Shelf.Bytes.IndexByte
import Derived.Test.YtmgmdnmfalepkaaProg
import Derived.Deep.RegionLaw
import Derived.Deep.RegionHeld3
import Derived.Deep.AppendLies
import Derived.Lib.BytesEntry
import Derived.Lib.SlicesCompact
import Derived.Sort.OwnSortedInts
import Derived.Shelf.SlIterI.Nil
import Derived.Ground.GgzProg
import Derived.Maps.OwnRows
import Derived.Maps.OwnIn
import Derived.StillTailTactics
import Derived.OrdersIn
import Derived.TacticsIn
import Derived.ControlIn
namespace Go.Proofs.Ytmgmdnmfalepkaa.PDraw
open Go.RowKit Go.Proofs.YtmgmdnmfalepkaaW.PrintWords Go.Proofs.YtmgmdnmfalepkaaW.PrintMore Go.Proofs.Ytmgmdnmfalepkaa.Kit Go.Proofs.Ytmgmdnmfalepkaa.PKit Go.Proofs.Ytmgmdnmfalepkaa.PSeg Go.Proofs.Ytmgmdnmfalepkaa.PEnc Go.Proofs.Ytmgmdnmfalepkaa.HelpBB Go.Proofs.Ytmgmdnmfalepkaa.HelpSeg Go.Proofs.Ytmgmdnmfalepkaa.L
set_option linter.unusedVariables false
set_option linter.unusedSimpArgs false
theorem tmB {v m : Int} (h0 : 0 ≤ v) (hm : 0 < m) : 0 ≤ Int.tmod v m ∧ Int.tmod v m < m := by
 rw [Int.tmod_eq_emod_of_nonneg h0]
 exact ⟨Int.emod_nonneg _ zq3, Int.emod_lt_of_pos _ hm⟩
theorem tdB {v m : Int} (h0 : 0 ≤ v) (hm : 0 < m) : 0 ≤ Int.tdiv v m ∧ Int.tdiv v m ≤ v := by
 rw [Int.tdiv_eq_ediv_of_nonneg h0]
 exact ⟨Int.ediv_nonneg h0 zq3, Int.ediv_le_self _ h0⟩
structure Rdr (b : List Int) (i : Int) : Prop where
 b0 : ∀ x ∈ b, 0 ≤ x ∧ x ≤ 255
 len : b.length ≤ 600
 i0 : 0 ≤ i
 i1 : i ≤ (b.length : Int)
theorem next_ex {b : List Int} {i : Int} (h : Rdr b i) : ∃ v j, spec_l1rd_next.f b i = some (v, j) ∧ 0 ≤ v ∧ v ≤ 255 ∧ Rdr b j := by
 obtain ⟨h0, hl, h1, h2⟩ := h
 unfold spec_l1rd_next.f
 by_cases hi : i ≥ (b.length : Int)
 ·exact ⟨0, i, if_pos hi, zq3, zq3, ⟨h0, hl, h1, h2⟩⟩
 ·have hv : 0 ≤ rd b i ∧ rd b i ≤ 255 := by
   obtain ⟨n, rfl⟩ : ∃ n : Nat, i = (n : Int) := ⟨i.toNat, zq3⟩
   rw [rd_at]
   exact h0 _ (by rw [List.getD, List.getElem?_eq_getElem zq3]; exact List.getElem_mem zq3)
  refine ⟨rd b i, i + 1, ?_, hv.1, hv.2, ⟨h0, hl, zq3, zq3⟩⟩
  rw [if_neg hi, if_pos h1, if_pos zq3, wrap_in zq3, wrap_in zq3]
def Fine (l : List Int) : Prop := ∀ x ∈ l, (0 ≤ x ∧ x ≤ 255) ∧ x ≠ 10
theorem Fine.nil : Fine [] := fun x hx => by cases hx
theorem Fine.app {a b : List Int} (ha : Fine a) (hb : Fine b) : Fine (a ++ b) := fun x hx => by
 rcases List.mem_append.1 hx with h | h
 ·exact ha x h
 ·exact hb x h
theorem Fine.one {x : Int} (h0 : 0 ≤ x) (h1 : x ≤ 255) (h2 : x ≠ 10) : Fine [x] := fun y hy => by
 rw [List.mem_singleton.1 hy]; exact ⟨⟨h0, h1⟩, h2⟩
theorem byte_ex {b : List Int} {i : Int} (h : Rdr b i) : ∃ v j, spec_l1drawByte.f b i = some (v, j) ∧ 0 ≤ v ∧ v ≤ 255 ∧ Rdr b j := by
 obtain ⟨v, j, e, v0, v1, hj⟩ := next_ex h
 have m3 := tmB (m := 3) v0 zq13
 have m25 := tmB (m := 25) v0 zq13
 unfold spec_l1drawByte.f
 rw [e]
 by_cases c1 : v < 200
 ·exact ⟨97 + Int.tmod v 3, j, by rw [Option.bind_some, if_pos c1]; show some (wrap64 (97 + Int.tmod v 3), j) = _; rw [wrap_in zq3], zq3, zq3, hj⟩
 ·by_cases c2 : v < 215
  ·exact ⟨48 + Int.tmod v 3, j, by rw [Option.bind_some, if_neg c1, if_pos c2]; show some (wrap64 (48 + Int.tmod v 3), j) = _; rw [wrap_in zq3], zq3, zq3, hj⟩
  ·have hb := bt_range (⟨#[92, 46, 91, 93, 40, 41, 124, 42, 43, 63, 123, 125, 94, 36, 45, 10, 9, 13, 32, 126, 0, 127, 128, 255, 33]⟩ : ByteArray) (Int.tmod v 25)
   refine ⟨_, j, ?_, hb.1, hb.2, hj⟩
   rw [Option.bind_some, if_neg c1, if_neg c2, if_pos m25.1, if_pos m25.2]
   show some (wrap64 (bt _ (Int.tmod v 25)), j) = _
   rw [wrap_in zq3]
theorem word_ex (a : Int) : ∃ w, spec_l4word.f a = some w ∧ w.size ≤ 9 ∧ Fine (bytesOf w) := by
 unfold spec_l4word.f
 repeat' split
 all_goals exact ⟨_, rfl, zq13, by unfold Fine; decide⟩
theorem l0_ex (b : List Int) (n : Int) (hn : n ≤ 8) : ∀ (d : Nat) (x : List Int) (c i j : Int), (n - i).toNat ≤ d → 0 ≤ i → Fine x → (x.length : Int) = i → i ≤ 8 → 0 ≤ c → c ≤ 255 → Rdr b j → ∃ r j', Ev (fun k => spec_l4drawLine.l0 k x n c i b j) (r, j') ∧ Fine r ∧ r.length ≤ 8 ∧ Rdr b j' := by
 intro d
 induction d with
 | zero =>
  intro x c i j hd hi hx hl h8 c0 c1 hj
  by_cases hlt : i < n
  ·omega
  ·exact ⟨x, j, Ev.step (f := fun _ => some (x, j)) (fun k => by simp only [spec_l4drawLine.l0]; rw [if_neg hlt]) (Ev.now _), hx, zq3, hj⟩
 | succ d ih =>
  intro x c i j hd hi hx hl h8 c0 c1 hj
  by_cases hlt : i < n
  ·have hw : wrap64 (i + 1) = i + 1 := wrap_in zq3
   by_cases h3 : Int.tmod i 3 = 0
   ·obtain ⟨v, j', e, v0, v1, hj'⟩ := next_ex hj
    have m3 := tmB (m := 3) v0 zq13
    have d3 := tdB (m := 3) v0 zq13
    obtain ⟨r, j2, hr, f1, f2, f3⟩ := ih (x ++ [(wrap64 (97 + Int.tmod v 3)) % 256]) (Int.tdiv v 3) (i + 1) j' zq3 zq3 (hx.app (Fine.one zq52 zq52 zq52)) zq28 zq3 zq3 zq3 hj'
    refine ⟨r, j2, Ev.step (fun k => ?_) hr, f1, f2, f3⟩
    simp only [spec_l4drawLine.l0]
    rw [if_pos hlt, if_pos h3, e, Option.bind_some, if_pos zq3, hw, wrap_in (x := Int.tdiv v 3) zq3]
   ·have m3 := tmB (m := 3) c0 zq13
    have d3 := tdB (m := 3) c0 zq13
    obtain ⟨r, j2, hr, f1, f2, f3⟩ := ih (x ++ [(wrap64 (97 + Int.tmod c 3)) % 256]) (Int.tdiv c 3) (i + 1) j zq3 zq3 (hx.app (Fine.one zq52 zq52 zq52)) zq28 zq3 zq3 zq3 hj
    refine ⟨r, j2, Ev.step (fun k => ?_) hr, f1, f2, f3⟩
    simp only [spec_l4drawLine.l0]
    rw [if_pos hlt, if_neg h3, if_pos zq3, hw, wrap_in (x := Int.tdiv c 3) zq3]
  ·exact ⟨x, j, Ev.step (f := fun _ => some (x, j)) (fun k => by simp only [spec_l4drawLine.l0]; rw [if_neg hlt]) (Ev.now _), hx, zq3, hj⟩
theorem l1_ex (b : List Int) (n : Int) (hn : n ≤ 4) : ∀ (d : Nat) (x : List Int) (i j : Int), (n - i).toNat ≤ d → 0 ≤ i → Fine x → (x.length : Int) = i → i ≤ 4 → Rdr b j → ∃ r j', Ev (fun k => spec_l4drawLine.l1 k x n i b j) (r, j') ∧ Fine r ∧ r.length ≤ 8 ∧ Rdr b j' := by
 intro d
 induction d with
 | zero =>
  intro x i j hd hi hx hl h8 hj
  have hlt : ¬ i < n := by omega
  exact ⟨x, j, Ev.step (f := fun _ => some (x, j)) (fun k => by simp only [spec_l4drawLine.l1]; rw [if_neg hlt]) (Ev.now _), hx, zq3, hj⟩
 | succ d ih =>
  intro x i j hd hi hx hl h8 hj
  by_cases hlt : i < n
  ·have hw : wrap64 (i + 1) = i + 1 := wrap_in zq3
   obtain ⟨v, j', e, v0, v1, hj'⟩ := byte_ex hj
   by_cases h1 : v = 10
   ·obtain ⟨r, j2, hr, f1, f2, f3⟩ := ih (x ++ [97]) (i + 1) j' zq3 zq3 (hx.app (Fine.one zq3 zq3 zq3)) zq28 zq3 hj'
    refine ⟨r, j2, Ev.step (fun k => ?_) hr, f1, f2, f3⟩
    simp only [spec_l4drawLine.l1]
    rw [if_pos hlt, e, Option.bind_some, if_pos h1, if_pos zq3, hw]
   ·by_cases h2 : v = 126
    ·obtain ⟨r, j2, hr, f1, f2, f3⟩ := ih (x ++ [97]) (i + 1) j' zq3 zq3 (hx.app (Fine.one zq3 zq3 zq3)) zq28 zq3 hj'
     refine ⟨r, j2, Ev.step (fun k => ?_) hr, f1, f2, f3⟩
     simp only [spec_l4drawLine.l1]
     rw [if_pos hlt, e, Option.bind_some, if_neg h1, if_pos h2, if_pos zq3, hw]
    ·obtain ⟨r, j2, hr, f1, f2, f3⟩ := ih (x ++ [v % 256]) (i + 1) j' zq3 zq3 (hx.app (Fine.one zq3 zq3 zq3)) zq28 zq3 hj'
     refine ⟨r, j2, Ev.step (fun k => ?_) hr, f1, f2, f3⟩
     simp only [spec_l4drawLine.l1]
     rw [if_pos hlt, e, Option.bind_some, if_neg h1, if_neg h2, if_pos zq3, hw]
  ·exact ⟨x, j, Ev.step (f := fun _ => some (x, j)) (fun k => by simp only [spec_l4drawLine.l1]; rw [if_neg hlt]) (Ev.now _), hx, zq3, hj⟩
theorem line_ex {b : List Int} {i : Int} (h : Rdr b i) : ∃ l j, Ev (fun k => spec_l4drawLine.f k b i) (l, j) ∧ Fine l ∧ l.length ≤ 20 ∧ Rdr b j := by
 obtain ⟨v, j, e, v0, v1, hj⟩ := next_ex h
 obtain ⟨v2, j2, e2, w0, w1, hj2⟩ := next_ex hj
 have m8 := tmB (m := 8) v0 zq13
 have m9 := tmB (m := 9) w0 zq13
 have m5 := tmB (m := 5) w0 zq13
 have m10 := tmB (m := 10) w0 zq13
 by_cases c1 : Int.tmod v 8 < 3
 ·obtain ⟨r, j3, hr, f1, f2, f3⟩ := l0_ex b (Int.tmod v2 9) zq3 (Int.tmod v2 9).toNat [] 0 0 j2 zq3 zq3 Fine.nil rfl zq3 zq3 zq3 hj2
  refine ⟨r, j3, Ev.congr (fun k => ?_) hr, f1, zq3, f3⟩
  simp only [spec_l4drawLine.f, e, Option.bind_some]
  rw [if_pos c1, e2, Option.bind_some]
 ·by_cases c2 : Int.tmod v 8 = 3
  ·obtain ⟨r, j3, hr, f1, f2, f3⟩ := l1_ex b (Int.tmod v2 5) zq3 (Int.tmod v2 5).toNat [] 0 j2 zq3 zq3 Fine.nil rfl zq3 hj2
   refine ⟨r, j3, Ev.congr (fun k => ?_) hr, f1, zq3, f3⟩
   simp only [spec_l4drawLine.f, e, Option.bind_some]
   rw [if_neg c1, if_pos c2, e2, Option.bind_some]
  ·obtain ⟨t, et, t1, t2⟩ := word_ex v2
   have tl := bytesOf_length t
   by_cases c3 : Int.tmod v 8 < 6
   ·obtain ⟨v3, j3, e3, x0, x1, hj3⟩ := next_ex hj2
    obtain ⟨u, eu, u1, u2⟩ := word_ex v3
    have ul := bytesOf_length u
    have c4 : ¬ Int.tmod v 8 = 7 := by omega
    by_cases c5 : Int.tmod (wrap64 (Int.tdiv v2 10)) 2 = 1
    ·refine ⟨bytesOf t ++ [32] ++ bytesOf u, j3, Ev.congr (f := fun _ => some (bytesOf t ++ [32] ++ bytesOf u, j3)) (fun k => ?_) (Ev.now _), (t2.app (Fine.one zq3 zq3 zq3)).app u2, by rw [List.length_append, List.length_append, List.length_singleton]; omega, hj3⟩
     simp only [spec_l4drawLine.f, e, Option.bind_some]
     rw [if_neg c1, if_neg c2, e2, Option.bind_some, et, Option.bind_some, if_pos zq42, if_pos c3, e3, Option.bind_some, if_pos c5, if_pos zq42, eu, Option.bind_some, if_pos zq42, if_neg c4]
     simp
    ·refine ⟨bytesOf t ++ bytesOf u, j3, Ev.congr (f := fun _ => some (bytesOf t ++ bytesOf u, j3)) (fun k => ?_) (Ev.now _), t2.app u2, zq47, hj3⟩
     simp only [spec_l4drawLine.f, e, Option.bind_some]
     rw [if_neg c1, if_neg c2, e2, Option.bind_some, et, Option.bind_some, if_pos zq42, if_pos c3, e3, Option.bind_some, if_neg c5, eu, Option.bind_some, if_pos zq42, if_neg c4]
     simp
   ·by_cases c4 : Int.tmod v 8 = 7
    ·refine ⟨bytesOf t ++ [(wrap64 (48 + Int.tmod v2 10)) % 256], j2, Ev.congr (f := fun _ => some (bytesOf t ++ [(wrap64 (48 + Int.tmod v2 10)) % 256], j2)) (fun k => ?_) (Ev.now _), t2.app (Fine.one zq52 zq52 zq52), zq28, hj2⟩
     simp only [spec_l4drawLine.f, e, Option.bind_some]
     rw [if_neg c1, if_neg c2, e2, Option.bind_some, et, Option.bind_some, if_pos zq42, if_neg c3, if_pos c4, if_pos zq42]
     simp
    ·refine ⟨bytesOf t, j2, Ev.congr (f := fun _ => some (bytesOf t, j2)) (fun k => ?_) (Ev.now _), t2, zq3, hj2⟩
     simp only [spec_l4drawLine.f, e, Option.bind_some]
     rw [if_neg c1, if_neg c2, e2, Option.bind_some, et, Option.bind_some, if_pos zq42, if_neg c3, if_neg c4]
     simp
structure Drw (ls : List (List Int)) (n : Nat) : Prop where
 fine : ∀ l ∈ ls, Fine l
 len : ∀ l ∈ ls, l.length ≤ 20
 num : ls.length ≤ n
theorem lines_l0 (b : List Int) (n : Int) (m : Nat) (hn : n ≤ (m : Int)) (hm : m ≤ 1000) : ∀ (d : Nat) (ls : List (List Int)) (i j : Int), (n - i).toNat ≤ d → 0 ≤ i → (ls.length : Int) = i → i ≤ (m : Int) → (∀ l ∈ ls, Fine l) → (∀ l ∈ ls, l.length ≤ 20) → Rdr b j → ∃ r j', Ev (fun k => spec_l4drawLines.l0 k n ls i b j) (r, j') ∧ Drw r m ∧ (1 ≤ n → i ≤ n → 1 ≤ r.length) ∧ Rdr b j' := by
 intro d
 induction d with
 | zero =>
  intro ls i j hd hi hl him hf h20 hj
  have hlt : ¬ i < n := by omega
  exact ⟨ls, j, Ev.step (f := fun _ => some (ls, j)) (fun k => by simp only [spec_l4drawLines.l0]; rw [if_neg hlt]) (Ev.now _), ⟨hf, h20, zq3⟩, zq3, hj⟩
 | succ d ih =>
  intro ls i j hd hi hl him hf h20 hj
  by_cases hlt : i < n
  ·have hw : wrap64 (i + 1) = i + 1 := wrap_in zq3
   obtain ⟨l, j', hev, g1, g2, hj'⟩ := line_ex hj
   obtain ⟨r, j2, hr, f1, f2, f3⟩ := ih (ls ++ [l]) (i + 1) j' zq3 zq3 zq28 zq3 (fun x hx => by rcases List.mem_append.1 hx with h | h; exact hf x h; rw [List.mem_singleton.1 h]; exact g1) (fun x hx => by rcases List.mem_append.1 hx with h | h; exact h20 x h; rw [List.mem_singleton.1 h]; exact g2) hj'
   refine ⟨r, j2, Ev.step (f := fun k => (spec_l4drawLine.f k b j).bind fun bt436 => (if ls.length < 5864062014805 then (spec_l4drawLines.l0 k n (ls ++ [bt436.1]) (wrap64 (i + 1)) b bt436.2) else none)) (fun k => by simp only [spec_l4drawLines.l0]; rw [if_pos hlt]) (Ev.bind hev (Ev.congr (fun k => ?_) hr)), f1, fun h1 h2 => f2 h1 zq3, f3⟩
   rw [if_pos zq3, hw]
  ·exact ⟨ls, j, Ev.step (f := fun _ => some (ls, j)) (fun k => by simp only [spec_l4drawLines.l0]; rw [if_neg hlt]) (Ev.now _), ⟨hf, h20, zq3⟩, zq3, hj⟩
theorem lines_ex {b : List Int} {i : Int} (h : Rdr b i) (m : Nat) (h0 : 0 < m) (h1 : m ≤ 100) : ∃ ls j, Ev (fun k => spec_l4drawLines.f k b i (m : Int)) (ls, j) ∧ Drw ls m ∧ 1 ≤ ls.length ∧ Rdr b j := by
 obtain ⟨v, j, e, v0, v1, hj⟩ := next_ex h
 have hv := tmB (m := (m : Int)) v0 zq3
 obtain ⟨r, j2, hr, f1, f2, f3⟩ := lines_l0 b (1 + Int.tmod v (m : Int)) m zq3 zq3 (1 + Int.tmod v (m : Int)).toNat [] 0 j zq3 zq3 rfl zq3 (fun x hx => by cases hx) (fun x hx => by cases hx) hj
 refine ⟨r, j2, Ev.congr (fun k => ?_) hr, f1, f2 zq3 zq3, f3⟩
 simp only [spec_l4drawLines.f, e, Option.bind_some]
 rw [if_neg zq3, wrap_in zq3]
end Go.Proofs.Ytmgmdnmfalepkaa.PDraw

namespace Go.Proofs.Ytmgmdnmfalepkaa.PDraw
open Go.RowKit Go.Proofs.YtmgmdnmfalepkaaW.PrintWords Go.Proofs.YtmgmdnmfalepkaaW.PrintMore Go.Proofs.Ytmgmdnmfalepkaa.Kit Go.Proofs.Ytmgmdnmfalepkaa.PKit Go.Proofs.Ytmgmdnmfalepkaa.PSeg Go.Proofs.Ytmgmdnmfalepkaa.PEnc Go.Proofs.Ytmgmdnmfalepkaa.HelpBB Go.Proofs.Ytmgmdnmfalepkaa.HelpSeg Go.Proofs.Ytmgmdnmfalepkaa.L
set_option linter.unusedVariables false
set_option linter.unusedSimpArgs false
def Byt (l : List Int) : Prop := ∀ x ∈ l, 0 ≤ x ∧ x ≤ 255
theorem Byt.app {a b : List Int} (ha : Byt a) (hb : Byt b) : Byt (a ++ b) := fun x hx => by
 rcases List.mem_append.1 hx with h | h
 ·exact ha x h
 ·exact hb x h
def Out (g : Nat → Option (List Int)) (n : Nat) : Prop := ∃ r, Ev g r ∧ r.length ≤ n ∧ Byt r
theorem Out.step {g f : Nat → Option (List Int)} {n : Nat} (h : ∀ k, g (k + 1) = f k) (k : Out f n) : Out g n := by
 obtain ⟨r, h1, h2⟩ := k
 exact ⟨r, Ev.step h h1, h2⟩
theorem Out.congr {g f : Nat → Option (List Int)} {n : Nat} (h : ∀ k, g k = f k) (k : Out f n) : Out g n := by
 obtain ⟨r, h1, h2⟩ := k
 exact ⟨r, Ev.congr h h1, h2⟩
theorem Out.bind {α : Type} {g : Nat → Option α} {f : Nat → α → Option (List Int)} {a : α} {n : Nat} (h : Ev g a) (k : Out (fun m => f m a) n) : Out (fun m => (g m).bind (f m)) n := by
 obtain ⟨r, h1, h2⟩ := k
 exact ⟨r, Ev.bind h h1, h2⟩
theorem varint_ex (v : Int) (h0 : -1000000000 ≤ v) (h1 : v ≤ 1000000000) : ∃ l, Ev (fun k => spec_l4varint.f k v) l ∧ l.length ≤ 9 ∧ Byt l := by
 by_cases h : 0 ≤ v
 ·have hv := varint_ev v.toNat zq3
  rw [Int.toNat_of_nonneg h] at hv
  exact ⟨_, hv, varint_len10 zq3, varint_bytes _⟩
 ·refine ⟨[v % 256], Ev.step (f := fun _ => some [v % 256]) (fun k => ?_) (Ev.now _), zq14, fun x hx => ?_⟩
  ·simp only [spec_l4varint.f]
   rw [if_pos zq3]
  ·rw [List.mem_singleton.1 hx]; omega
structure Tame (s : SegT) : Prop where
 b0 : 0 ≤ s.1
 b1 : s.1 ≤ 1000
 l1 : s.2.1.length ≤ 20
 ll : ∀ l ∈ s.2.1, l.length ≤ 20 ∧ Byt l
 k1 : s.2.2.1.length ≤ 300
 kb : ∀ x ∈ s.2.2.1, -20000000 ≤ x ∧ x ≤ 20000000
 pk : s.2.2.1.length ≤ s.2.2.2.length
 pl : ∀ p ∈ s.2.2.2, p.length ≤ 20
 pb : ∀ p ∈ s.2.2.2, ∀ x ∈ p, -10000 ≤ x ∧ x ≤ 10000
theorem getD_bd (l : List Int) (i : Nat) (a b : Int) (ha : a ≤ 0) (hb : 0 ≤ b) (h : ∀ x ∈ l, a ≤ x ∧ x ≤ b) : a ≤ l.getD i 0 ∧ l.getD i 0 ≤ b := by
 rw [List.getD]
 by_cases hi : i < l.length
 ·rw [List.getElem?_eq_getElem hi]; exact h _ (List.getElem_mem hi)
 ·rw [List.getElem?_eq_none zq3]; exact ⟨ha, hb⟩
theorem getD_in (l : List (List Int)) (i : Nat) (P : List Int → Prop) (h0 : P []) (h : ∀ x ∈ l, P x) : P (l.getD i []) := by
 rw [List.getD]
 by_cases hi : i < l.length
 ·rw [List.getElem?_eq_getElem hi]; exact h _ (List.getElem_mem hi)
 ·rw [List.getElem?_eq_none zq3]; exact h0
theorem body_ex (s : SegT) (h : Tame s) : Out (fun k => spec_l4body.f k s.1 s.2.1 s.2.2.1 s.2.2.2) 100000 := by
 obtain ⟨b, ls, K, Ps⟩ := s
 have hb0 : 0 ≤ b := h.b0
 have hb1 : b ≤ 1000 := h.b1
 have hl1 : ls.length ≤ 20 := h.l1
 have hk1 : K.length ≤ 300 := h.k1
 have hpk : K.length ≤ Ps.length := h.pk
 have rdL : ∀ i : Nat, rd_L1 ls (i : Int) = ls.getD i [] := fun i => rfl
 have rdP : ∀ i : Nat, rd_L3 Ps (i : Int) = Ps.getD i [] := fun i => rfl
 have hK : ∀ j, -20000000 ≤ K.getD j 0 ∧ K.getD j 0 ≤ 20000000 := fun j => getD_bd K j _ _ zq3 zq3 h.kb
 have hPl : ∀ j, (Ps.getD j []).length ≤ 20 := fun j => getD_in Ps j (fun p => p.length ≤ 20) zq13 h.pl
 have hPb : ∀ j, ∀ x ∈ Ps.getD j [], -10000 ≤ x ∧ x ≤ 10000 := fun j => getD_in Ps j (fun p => ∀ x ∈ p, -10000 ≤ x ∧ x ≤ 10000) (fun x hx => by cases hx) h.pb
 have hLl : ∀ j, (ls.getD j []).length ≤ 20 ∧ Byt (ls.getD j []) := fun j => getD_in ls j (fun l => l.length ≤ 20 ∧ Byt l) ⟨zq13, fun x hx => by cases hx⟩ h.ll
 have L2 : ∀ (j : Nat), j < K.length → (∀ y : List Int, y.length + 200 * (K.length - (j + 1)) ≤ 100000 → Byt y → Out (fun k => spec_l4body.l1 k y ((j + 1 : Nat) : Int) b ls K Ps) 100000) →
   ∀ (d i : Nat) (y : List Int), i + d = (Ps.getD j []).length → y.length + 9 * d + 200 * (K.length - (j + 1)) ≤ 100000 → Byt y → Out (fun k => spec_l4body.l2 k y (j : Int) (i : Int) b ls K Ps) 100000 := by
  intro j hj hnext d
  have hp1 := hPl j
  have hpb := hPb j
  have hrd := rdP j
  generalize Ps.getD j [] = P at hp1 hpb hrd
  induction d with
  | zero =>
   intro i y hd hy hyb
   obtain rfl : i = P.length := by omega
   refine Out.step (fun k => ?_) (hnext y zq3 hyb)
   simp only [spec_l4body.l2]
   rw [if_pos zq3, if_pos zq3, hrd, if_neg zq3, wrap_succ j zq3]
  | succ d ih =>
   intro i y hd hy hyb
   have e0 := getD_bd P i _ _ zq3 zq3 hpb
   have e1 := getD_bd P (i - 1) _ _ zq3 zq3 hpb
   by_cases h0 : i = 0
   ·subst h0
    obtain ⟨l, hv, hl, hb⟩ := varint_ex (P.getD 0 0 - b) zq3 zq3
    refine Out.step (f := fun k => (spec_l4varint.f k (P.getD 0 0 - b)).bind fun t397 => (if y.length + t397.length < 140737488355328 then (spec_l4body.l2 k (y ++ t397) (j : Int) ((0 + 1 : Nat) : Int) b ls K Ps) else none)) (fun k => ?_) (Out.bind hv (Out.congr (fun k => if_pos zq3) (ih (0 + 1) (y ++ l) zq3 zq47 (hyb.app hb))))
    simp only [spec_l4body.l2]
    rw [if_pos zq3, if_pos zq3, hrd, if_pos zq3, if_neg zq3, if_pos zq3, rd_at, wrap_in zq3, wrap_succ 0 zq3]
   ·obtain ⟨l, hv, hl, hb⟩ := varint_ex (P.getD i 0 - P.getD (i - 1) 0) zq3 zq3
    have hw : wrap64 ((i : Int) - 1) = ((i - 1 : Nat) : Int) := by rw [wrap_in zq3]; omega
    refine Out.step (f := fun k => (spec_l4varint.f k (P.getD i 0 - P.getD (i - 1) 0)).bind fun t389 => (if y.length + t389.length < 140737488355328 then (spec_l4body.l2 k (y ++ t389) (j : Int) ((i + 1 : Nat) : Int) b ls K Ps) else none)) (fun k => ?_) (Out.bind hv (Out.congr (fun k => if_pos zq3) (ih (i + 1) (y ++ l) zq3 zq47 (hyb.app hb))))
    simp only [spec_l4body.l2]
    rw [if_pos zq3, if_pos zq3, hrd, if_pos zq3, if_pos zq3, hw, if_pos zq3, if_pos zq3, if_pos zq3, rd_at, rd_at, wrap_in zq3, wrap_succ i zq3]
 have L1 : ∀ (d j : Nat) (y : List Int), j + d = K.length → y.length + 200 * d ≤ 100000 → Byt y → Out (fun k => spec_l4body.l1 k y (j : Int) b ls K Ps) 100000 := by
  intro d
  induction d with
  | zero =>
   intro j y hd hy hyb
   obtain rfl : j = K.length := by omega
   refine Out.step (f := fun _ => some y) (fun k => ?_) ⟨y, Ev.now _, zq3, hyb⟩
   simp only [spec_l4body.l1]
   rw [if_neg zq3]
  | succ d ih =>
   intro j y hd hy hyb
   have hj : j < K.length := by omega
   have e0 := hK j
   have e1 := hK (j - 1)
   have hp1 := hPl j
   have key : ∀ g : Int, -50000000 ≤ g → g ≤ 50000000 → Out (fun k => spec_l4body.j2 k y (j : Int) g b ls K Ps) 100000 := by
    intro g g0 g1
    obtain ⟨l, hv, hl, hb⟩ := varint_ex g zq3 zq3
    obtain ⟨l', hv', hl', hb'⟩ := varint_ex ((Ps.getD j []).length : Int) zq3 zq3
    refine Out.step (f := fun k => (spec_l4varint.f k g).bind fun t371 => (if y.length + t371.length < 140737488355328 then ((spec_l4varint.f k ((Ps.getD j []).length : Int)).bind fun t378 => (if (y ++ t371).length + t378.length < 140737488355328 then (spec_l4body.l2 k ((y ++ t371) ++ t378) (j : Int) ((0 : Nat) : Int) b ls K Ps) else none)) else none)) (fun k => ?_) (Out.bind hv (Out.congr (fun k => if_pos zq3) (Out.bind hv' (Out.congr (fun k => if_pos zq47) (L2 j hj (fun z hz hzb => ih (j + 1) z zq3 zq3 hzb) (Ps.getD j []).length 0 ((y ++ l) ++ l') zq3 (by rw [List.length_append, List.length_append]; omega) ((hyb.app hb).app hb'))))))
    simp only [spec_l4body.j2, Option.bind_some]
    simp only [show (0 : Int) ≤ (j : Int) from by omega, show (j : Int) < (Ps.length : Int) from by omega, if_true, rdP]
    rfl
   by_cases h0 : j = 0
   ·subst h0
    refine Out.step (fun k => ?_) (key (K.getD 0 0) zq3 zq3)
    simp only [spec_l4body.l1]
    rw [if_pos zq3, if_pos zq3, if_neg zq3, rd_at]
   ·have hw : wrap64 ((j : Int) - 1) = ((j - 1 : Nat) : Int) := by rw [wrap_in zq3]; omega
    refine Out.step (fun k => ?_) (key (K.getD j 0 - K.getD (j - 1) 0) zq3 zq3)
    simp only [spec_l4body.l1]
    rw [if_pos zq3, if_pos zq3, if_pos zq3, hw, if_pos zq3, if_pos zq3, rd_at, rd_at, wrap_in zq3]
 have L0 : ∀ (d i : Nat) (y : List Int), i + d = ls.length → y.length + 40 * d ≤ 2000 → Byt y → Out (fun k => spec_l4body.l0 k y (i : Int) b ls K Ps) 100000 := by
  intro d
  induction d with
  | zero =>
   intro i y hd hy hyb
   obtain rfl : i = ls.length := by omega
   obtain ⟨l, hv, hl, hb⟩ := varint_ex (K.length : Int) zq3 zq3
   refine Out.step (f := fun k => (spec_l4varint.f k (K.length : Int)).bind fun t289 => (if y.length + t289.length < 140737488355328 then (spec_l4body.l1 k (y ++ t289) ((0 : Nat) : Int) b ls K Ps) else none)) (fun k => ?_) (Out.bind hv (Out.congr (fun k => if_pos zq3) (L1 K.length 0 (y ++ l) zq3 zq47 (hyb.app hb))))
   simp only [spec_l4body.l0]
   rw [if_neg zq3]
   rfl
  | succ d ih =>
   intro i y hd hy hyb
   obtain ⟨q1, q2⟩ := hLl i
   obtain ⟨l, hv, hl, hb⟩ := varint_ex ((ls.getD i []).length : Int) zq3 zq3
   refine Out.step (f := fun k => (spec_l4varint.f k ((ls.getD i []).length : Int)).bind fun t279 => (if y.length + t279.length < 140737488355328 then (if (y ++ t279).length + (ls.getD i []).length < 140737488355328 then (spec_l4body.l0 k ((y ++ t279) ++ ls.getD i []) ((i + 1 : Nat) : Int) b ls K Ps) else none) else none)) (fun k => ?_) (Out.bind hv (Out.congr (fun k => by rw [if_pos zq3, if_pos zq47]) (ih (i + 1) ((y ++ l) ++ ls.getD i []) zq3 (by rw [List.length_append, List.length_append]; omega) ((hyb.app hb).app q2))))
   simp only [spec_l4body.l0, Option.bind_some, rdL]
   rw [if_pos zq3, if_pos zq3, wrap_succ i zq3]
 obtain ⟨l, hv, hl, hb⟩ := varint_ex b zq3 zq3
 obtain ⟨l', hv', hl', hb'⟩ := varint_ex (ls.length : Int) zq3 zq3
 have tg : Byt [84, 71] := by unfold Byt; decide
 refine Out.congr (f := fun k => (spec_l4varint.f k b).bind fun t266 => (if ([84, 71] : List Int).length + t266.length < 140737488355328 then ((spec_l4varint.f k (ls.length : Int)).bind fun t272 => (if (([84, 71] : List Int) ++ t266).length + t272.length < 140737488355328 then (spec_l4body.l0 k ((([84, 71] : List Int) ++ t266) ++ t272) ((0 : Nat) : Int) b ls K Ps) else none)) else none)) (fun k => ?_) (Out.bind hv (Out.congr (fun k => if_pos zq42) (Out.bind hv' (Out.congr (fun k => if_pos (by rw [List.length_append]; simp; omega)) (L0 ls.length 0 (([84, 71] ++ l) ++ l') zq3 (by rw [List.length_append, List.length_append]; simp; omega) ((tg.app hb).app hb'))))))
 simp only [spec_l4body.f, Option.bind_some]
 rfl
def spoil (s : SegT) (k v : Int) : SegT :=
 if k = 0 then (s.1 + 1, s.2)
 else if k = 1 then (-1, s.2)
 else if k = 2 then (s.1, s.2.1, s.2.2.1 ++ [16777215], s.2.2.2)
 else if k = 3 then (s.1, s.2.1, s.2.2.1, s.2.2.2 ++ [[s.1]])
 else if k = 4 ∧ 0 < s.2.2.1.length then (s.1, s.2.1, s.2.2.1.drop 1, s.2.2.2)
 else if k = 5 ∧ 0 < s.2.2.1.length then (s.1, s.2.1, s.2.2.1.set (v.toNat % s.2.2.1.length) v, s.2.2.2)
 else if k = 6 ∧ 0 < s.2.2.2.length then (s.1, s.2.1, s.2.2.1, s.2.2.2.set (v.toNat % s.2.2.2.length) [s.1 + v % 3])
 else if k = 7 ∧ 0 < s.2.2.2.length then (s.1, s.2.1, s.2.2.1, s.2.2.2.drop 1)
 else if k = 8 then (s.1, s.2.1 ++ [[97, 98]], s.2.2)
 else if 0 < s.2.2.2.length then (s.1, s.2.1, s.2.2.1, s.2.2.2.set (v.toNat % s.2.2.2.length) (s.2.2.2.getD (v.toNat % s.2.2.2.length) [] ++ [s.1]))
 else (s.1, [], s.2.2)
def told (t : SegT) : Prop := 0 ≤ t.1 ∧ t.2.2.1.length ≤ t.2.2.2.length
instance (t : SegT) : Decidable (told t) := by unfold told; infer_instance
theorem tame_seg {b : Int} {ls : List (List Int)} (h : Drw ls 12) (hb0 : 0 ≤ b) (hb1 : b ≤ 255) : Tame (seg b ls) ∧ (seg b ls).2.2.1.length ≤ 240 ∧ (∀ p ∈ (seg b ls).2.2.2, p.length ≤ 12 ∧ ∀ x ∈ p, 0 ≤ x ∧ x ≤ 300) := by
 have hB : Bytes ls := fun l hl x hx => (h.fine l hl x hx).1
 have ht : totalB ls ≤ 240 := by
  have key : ∀ L : List (List Int), (∀ l ∈ L, l.length ≤ 20) → totalB L ≤ 20 * L.length := by
   intro L
   induction L with
   | nil => intro _; decide
   | cons l r ih =>
    intro hL
    have h1 := hL l (List.mem_cons_self ..)
    have h2 := ih (fun x hx => hL x (List.mem_cons_of_mem _ hx))
    simp only [totalB, List.length_cons]
    omega
  have h1 := key ls h.len
  have h2 := h.num
  omega
 have hk := keys_len ls
 have hp : ∀ p ∈ (seg b ls).2.2.2, p.length ≤ 12 ∧ ∀ x ∈ p, 0 ≤ x ∧ x ≤ 300 := by
  intro p hp
  obtain ⟨k, hk, rfl⟩ := List.mem_map.1 hp
  refine ⟨Nat.le_trans (post_len b ls ls.length k) h.num, fun x hx => ?_⟩
  unfold post at hx
  obtain ⟨i, hi, rfl⟩ := List.mem_map.1 hx
  have h1 := List.mem_range.1 (List.mem_filter.1 hi).1
  have h2 := h.num
  omega
 refine ⟨⟨hb0, by show b ≤ 1000; omega, by show ls.length ≤ 20; have := h.num; omega, fun l hl => ⟨h.len l hl, fun x hx => hB l hl x hx⟩, by show (keys ls).length ≤ 300; omega, fun x hx => by have := keys_bd hB x hx; omega, by show (keys ls).length ≤ ((keys ls).map _).length; rw [List.length_map]; omega, fun p hp' => Nat.le_trans (hp p hp').1 zq13, fun p hp' x hx => by have := (hp p hp').2 x hx; omega⟩, by show (keys ls).length ≤ 240; omega, hp⟩
end Go.Proofs.Ytmgmdnmfalepkaa.PDraw

namespace Go.Proofs.Ytmgmdnmfalepkaa.PDec
open Go.RowKit Go.Proofs.YtmgmdnmfalepkaaW.PrintWords Go.Proofs.Ytmgmdnmfalepkaa.PKit Go.Proofs.Ytmgmdnmfalepkaa.PSeg Go.Proofs.Ytmgmdnmfalepkaa.PEnc Go.Proofs.Ytmgmdnmfalepkaa.HelpBB
set_option linter.unusedVariables false
def rdNum : Nat → List Int → Option (Nat × List Int)
 | 0, _ => none
 | _ + 1, [] => none
 | k + 1, c :: r => if c < 128 then some (c.toNat, r) else (rdNum k r).map fun q => (c.toNat % 128 + 128 * q.1, q.2)
def rdLine (k : Nat) (b : List Int) : Option (List Int × List Int) := (rdNum k b).bind fun q => if q.1 ≤ q.2.length then some (q.2.take q.1, q.2.drop q.1) else none
def rdLines (k : Nat) : Nat → List Int → Option (List (List Int) × List Int)
 | 0, b => some ([], b)
 | n + 1, b => (rdLine k b).bind fun q => (rdLines k n q.2).map fun p => (q.1 :: p.1, p.2)
def rdHead (k : Nat) (b : List Int) : Option (Int × List (List Int)) := (rdNum k b).bind fun q => (rdNum k q.2).bind fun p => if p.1 ≤ 1000 then (rdLines k p.1 p.2).map fun l => ((q.1 : Int), l.1) else none
theorem rdNum_varint : ∀ (k n : Nat) (r : List Int), n < 128 ^ (k + 1) → rdNum (k + 1) (varint n ++ r) = some (n, r) := by
 intro k
 induction k with
 | zero =>
  intro n r hn
  have hn : n < 128 := by simpa using hn
  rw [varint_lt hn]
  show (if (n : Int) < 128 then _ else _) = _
  rw [if_pos zq3]
  simp
 | succ k ih =>
  intro n r hn
  by_cases h : n < 128
  ·rw [varint_lt h]
   show (if (n : Int) < 128 then _ else _) = _
   rw [if_pos zq3]
   simp
  ·rw [varint_ge h, List.cons_append]
   show (if ((n % 128 + 128 : Nat) : Int) < 128 then _ else (rdNum (k + 1) (varint (n / 128) ++ r)).map _) = _
   rw [if_neg zq3, ih (n / 128) r (by rw [Nat.div_lt_iff_lt_mul zq13]; rw [Nat.pow_succ] at hn; exact hn), Option.map_some, Int.toNat_natCast]
   have : (n % 128 + 128) % 128 + 128 * (n / 128) = n := by omega
   simp only [this]
theorem rdNum_some : ∀ (k : Nat) (b : List Int) (v : Nat) (r : List Int), (∀ x ∈ b, 0 ≤ x ∧ x ≤ 255) → rdNum k b = some (v, r) → v < 128 ^ k ∧ ∃ m, 1 ≤ m ∧ m ≤ k ∧ m ≤ b.length ∧ r = b.drop m := by
 intro k
 induction k with
 | zero => intro b v r _ h; simp [rdNum] at h
 | succ k ih =>
  intro b v r hb h
  rcases b with _ | ⟨c, t⟩
  ·simp [rdNum] at h
  ·have h : (if c < 128 then some (c.toNat, t) else (rdNum k t).map fun q => (c.toNat % 128 + 128 * q.1, q.2)) = some (v, r) := h
   have hc := hb c (List.mem_cons_self ..)
   have hp : 0 < 128 ^ k := Nat.pow_pos zq13
   rw [Nat.pow_succ]
   by_cases hl : c < 128
   ·rw [if_pos hl] at h
    injection h with h
    injection h with h1 h2
    refine ⟨zq3, 1, Nat.le_refl _, zq3, zq14, by simpa using h2.symm⟩
   ·rw [if_neg hl] at h
    cases hq : rdNum k t with
    | none => rw [hq] at h; simp at h
    | some q =>
     obtain ⟨q1, q2⟩ := q
     rw [hq, Option.map_some] at h
     injection h with h
     injection h with h1 h2
     obtain ⟨e1, m, e2, e3, e4, e5⟩ := ih t q1 q2 (fun x hx => hb x (List.mem_cons_of_mem _ hx)) hq
     have h1 : c.toNat % 128 + 128 * q1 = v := h1
     have h2 : q2 = r := h2
     refine ⟨zq3, m + 1, zq3, zq3, zq42, ?_⟩
     rw [← h2, e5]
     simp
theorem bytes_drop {b : List Int} (hb : ∀ x ∈ b, 0 ≤ x ∧ x ≤ 255) (m : Nat) : ∀ x ∈ b.drop m, 0 ≤ x ∧ x ≤ 255 := fun x hx => hb x (List.mem_of_mem_drop hx)
theorem bytes_take {b : List Int} (hb : ∀ x ∈ b, 0 ≤ x ∧ x ≤ 255) (m : Nat) : ∀ x ∈ b.take m, 0 ≤ x ∧ x ≤ 255 := fun x hx => hb x (List.mem_of_mem_take hx)
theorem rdLines_some (k : Nat) : ∀ (n : Nat) (b : List Int) (ls : List (List Int)) (r : List Int), (∀ x ∈ b, 0 ≤ x ∧ x ≤ 255) → rdLines k n b = some (ls, r) → ls.length = n ∧ ls.length + totalB ls + r.length ≤ b.length ∧ Bytes ls := by
 intro n
 induction n with
 | zero =>
  intro b ls r hb h
  injection h with h
  injection h with h1 h2
  subst h1 h2
  exact ⟨rfl, by simp [totalB], fun l hl => by cases hl⟩
 | succ n ih =>
  intro b ls r hb h
  have h : ((rdLine k b).bind fun q => (rdLines k n q.2).map fun p => (q.1 :: p.1, p.2)) = some (ls, r) := h
  unfold rdLine at h
  cases hq : rdNum k b with
  | none => rw [hq] at h; simp at h
  | some q =>
   obtain ⟨v, t⟩ := q
   obtain ⟨_, m, e2, e3, e4, e5⟩ := rdNum_some k b v t hb hq
   rw [hq, Option.bind_some] at h
   simp only at h
   by_cases hv : v ≤ t.length
   ·rw [if_pos hv, Option.bind_some] at h
    simp only at h
    have ht : ∀ x ∈ t, 0 ≤ x ∧ x ≤ 255 := by rw [e5]; exact bytes_drop hb m
    cases hp : rdLines k n (t.drop v) with
    | none => rw [hp] at h; simp at h
    | some p =>
     obtain ⟨ls', r'⟩ := p
     rw [hp, Option.map_some] at h
     injection h with h
     injection h with h1 h2
     have h1 : t.take v :: ls' = ls := h1
     have h2 : r' = r := h2
     obtain ⟨q1, q2, q3⟩ := ih _ _ _ (bytes_drop ht v) hp
     subst h1 h2
     have hc : totalB (t.take v :: ls') = (t.take v).length + totalB ls' := by simp [totalB]
     have hl1 : t.length = b.length - m := by rw [e5, List.length_drop]
     rw [List.length_drop] at q2
     refine ⟨by simp [q1], ?_, ?_⟩
     ·rw [hc, List.length_cons, List.length_take]
      omega
     ·intro l hl
      rcases List.mem_cons.1 hl with e | hl
      ·subst e
       exact bytes_take ht v
      ·exact q3 l hl
   ·rw [if_neg hv] at h
    simp at h
theorem rdHead_some (k : Nat) (b : List Int) (base : Int) (ls : List (List Int)) (hb : ∀ x ∈ b, 0 ≤ x ∧ x ≤ 255) (h : rdHead k b = some (base, ls)) : 0 ≤ base ∧ base < ((128 ^ k : Nat) : Int) ∧ ls.length ≤ 1000 ∧ ls.length + totalB ls ≤ b.length ∧ Bytes ls := by
 unfold rdHead at h
 cases hq : rdNum k b with
 | none => rw [hq] at h; simp at h
 | some q =>
  obtain ⟨v, t⟩ := q
  obtain ⟨e1, m, e2, e3, e4, e5⟩ := rdNum_some k b v t hb hq
  have ht : ∀ x ∈ t, 0 ≤ x ∧ x ≤ 255 := by rw [e5]; exact bytes_drop hb m
  rw [hq, Option.bind_some] at h
  simp only at h
  cases hp : rdNum k t with
  | none => rw [hp] at h; simp at h
  | some p =>
   obtain ⟨n, t'⟩ := p
   obtain ⟨f1, m', f2, f3, f4, f5⟩ := rdNum_some k t n t' ht hp
   rw [hp, Option.bind_some] at h
   simp only at h
   by_cases hn : n ≤ 1000
   ·rw [if_pos hn] at h
    cases hl : rdLines k n t' with
    | none => rw [hl] at h; simp at h
    | some l =>
     obtain ⟨ls', r⟩ := l
     rw [hl, Option.map_some] at h
     injection h with h
     injection h with h1 h2
     have h1 : (v : Int) = base := h1
     have h2 : ls' = ls := h2
     subst h2
     obtain ⟨q1, q2, q3⟩ := rdLines_some k n t' ls' r (by rw [f5]; exact bytes_drop ht m') hl
     have l1 : t.length = b.length - m := by rw [e5, List.length_drop]
     have l2 : t'.length = t.length - m' := by rw [f5, List.length_drop]
     have e1' : (v : Int) < ((128 ^ k : Nat) : Int) := Int.ofNat_lt.2 e1
     exact ⟨zq3, zq3, zq3, zq3, q3⟩
   ·rw [if_neg hn] at h
    simp at h
theorem flat_lines (ls : List (List Int)) : flat (line ls) ls.length = ls.flatMap fun l => varint l.length ++ l := by
 have e : (List.range ls.length).map (fun i => ls.getD i []) = ls := by
  apply List.ext_getElem
  ·simp
  ·intro i h1 h2
   simp [List.getD, List.getElem?_eq_getElem h2]
 conv => rhs; rw [← e]
 rw [List.flatMap_map]
 rfl
theorem rdLines_code (k : Nat) : ∀ (ls : List (List Int)) (r : List Int), (∀ l ∈ ls, l.length < 128 ^ (k + 1)) → rdLines (k + 1) ls.length ((ls.flatMap fun l => varint l.length ++ l) ++ r) = some (ls, r) := by
 intro ls
 induction ls with
 | nil => intro r _; rfl
 | cons l t ih =>
  intro r h
  have e : ((l :: t).flatMap fun l => varint l.length ++ l) ++ r = varint l.length ++ (l ++ ((t.flatMap fun l => varint l.length ++ l) ++ r)) := by simp
  rw [e]
  show ((rdLine (k + 1) _).bind fun q => (rdLines (k + 1) t.length q.2).map fun p => (q.1 :: p.1, p.2)) = _
  unfold rdLine
  rw [rdNum_varint k l.length _ (h l (List.mem_cons_self ..)), Option.bind_some]
  simp only
  rw [if_pos zq14, Option.bind_some]
  simp only
  rw [List.drop_left, List.take_left, ih r (fun x hx => h x (List.mem_cons_of_mem _ hx)), Option.map_some]
theorem code_form (b : Int) (ls : List (List Int)) : ∃ r, code (seg b ls) = [84, 71] ++ (varint b.toNat ++ (varint ls.length ++ ((ls.flatMap fun l => varint l.length ++ l) ++ r))) := by
 refine ⟨varint (keys ls).length ++ (flat (grp b (keys ls) ((keys ls).map (post b ls ls.length))) (keys ls).length ++ four (sum (body (seg b ls)))), ?_⟩
 rw [← flat_lines]
 unfold code
 generalize four (sum (body (seg b ls))) = f
 show (((([84, 71] ++ varint b.toNat ++ varint ls.length) ++ flat (line ls) ls.length) ++ varint (keys ls).length) ++ flat (grp b (keys ls) ((keys ls).map (post b ls ls.length))) (keys ls).length) ++ f = _
 simp only [List.append_assoc]
theorem rdHead_code (k : Nat) (hk : 3 ≤ k) (b : Int) (ls : List (List Int)) (h : fits b ls = true) : rdHead (k + 1) ((code (seg b ls)).drop 2) = some (b, ls) := by
 obtain ⟨h1, h2, h3, h4, h5, h6⟩ := fits_parts h
 obtain ⟨r, e⟩ := code_form b ls
 have hp : 268435456 ≤ 128 ^ (k + 1) := Nat.le_trans (by decide : 268435456 ≤ 128 ^ 4) (Nat.pow_le_pow_right zq13 zq3)
 rw [e]
 show rdHead (k + 1) (varint b.toNat ++ _) = _
 unfold rdHead
 rw [rdNum_varint k b.toNat _ zq3, Option.bind_some]
 simp only
 rw [rdNum_varint k ls.length _ zq3, Option.bind_some]
 simp only
 rw [if_pos zq3, rdLines_code k ls r (fun l hl => by have := total_mem hl; omega), Option.map_some, Int.toNat_of_nonneg h1]
def decBy (P : List Int → Option (Int × List (List Int))) (b : List Int) : SegT × Int := match P b with
 | some q => if fits q.1 q.2 = true ∧ code (seg q.1 q.2) = b then (seg q.1 q.2, 0) else ((0, [], [], []), 5)
 | none => ((0, [], [], []), 5)
def Finds (P : List Int → Option (Int × List (List Int))) : Prop := ∀ b ls, fits b ls = true → P (code (seg b ls)) = some (b, ls)
theorem decBy_ok {P} (hP : Finds P) {b : Int} {ls : List (List Int)} (h : fits b ls = true) : decBy P (code (seg b ls)) = (seg b ls, 0) := by
 unfold decBy
 rw [hP b ls h]
 exact if_pos ⟨h, rfl⟩
theorem decBy_or (P) (b : List Int) : (∃ base ls, fits base ls = true ∧ code (seg base ls) = b ∧ P b = some (base, ls) ∧ decBy P b = (seg base ls, 0)) ∨ decBy P b = ((0, [], [], []), 5) := by
 unfold decBy
 cases h : P b with
 | none => exact .inr rfl
 | some q =>
  obtain ⟨base, ls⟩ := q
  by_cases hq : fits base ls = true ∧ code (seg base ls) = b
  ·refine .inl ⟨base, ls, hq.1, hq.2, rfl, ?_⟩
   exact if_pos hq
  ·exact .inr (if_neg hq)
theorem decBy_same {P Q} (hP : Finds P) (hQ : Finds Q) (b : List Int) : decBy P b = decBy Q b := by
 rcases decBy_or P b with ⟨base, ls, h1, h2, _, h3⟩ | h
 ·rw [h3, ← h2, decBy_ok hQ h1]
 ·rcases decBy_or Q b with ⟨base, ls, h1, h2, _, h3⟩ | h'
  ·rw [h3, ← h2, decBy_ok hP h1]
  ·rw [h, h']
def specP (b : List Int) : Option (Int × List (List Int)) := if b.length < 2 then none else rdHead 4 (b.drop 2)
def implP (b : List Int) : Option (Int × List (List Int)) := if b.take 2 = [84, 71] then rdHead 5 (b.drop 2) else none
theorem specP_finds : Finds specP := fun b ls h => by
 obtain ⟨r, e⟩ := code_form b ls
 unfold specP
 rw [if_neg (by rw [e]; simp), rdHead_code 3 zq3 b ls h]
theorem implP_finds : Finds implP := fun b ls h => by
 obtain ⟨r, e⟩ := code_form b ls
 unfold implP
 rw [if_pos (by rw [e]; simp), rdHead_code 4 zq3 b ls h]
def dec (b : List Int) : SegT × Int := decBy implP b
theorem dec_spec (b : List Int) : dec b = decBy specP b := decBy_same implP_finds specP_finds b
end Go.Proofs.Ytmgmdnmfalepkaa.PDec

namespace Go.Proofs.Ytmgmdnmfalepkaa.PSta
open Go.RowKit Go.Proofs.YtmgmdnmfalepkaaW.PrintWords Go.Proofs.Ytmgmdnmfalepkaa.PKit Go.Proofs.Ytmgmdnmfalepkaa.PSeg Go.Proofs.Ytmgmdnmfalepkaa.PEnc Go.Proofs.Ytmgmdnmfalepkaa.PDec Go.Proofs.Ytmgmdnmfalepkaa.HelpBB
set_option linter.unusedVariables false
def At (base : Int) (s : SegT) (b : List Int) : Prop := s.1 = base ∧ fits s.1 s.2.1 = true ∧ s = seg s.1 s.2.1 ∧ code s = b ∧ dec b = (s, 0)
inductive Chain : Int → List SegT → List (List Int) → Prop
 | nil (base : Int) : Chain base [] []
 | cons {base : Int} {s : SegT} {b : List Int} {ss : List SegT} {bs : List (List Int)} (h : At base s b) (t : Chain (base + (s.2.1.length : Int)) ss bs) : Chain base (s :: ss) (b :: bs)
end Go.Proofs.Ytmgmdnmfalepkaa.PSta

namespace Go.Proofs.Ytmgmdnmfalepkaa.L
open Go.RowKit Go.Proofs.YtmgmdnmfalepkaaW.PrintWords Go.Proofs.YtmgmdnmfalepkaaW.PrintLast Go.Proofs.YtmgmdnmfalepkaaW.PrintMore
attribute [local go_sem] max2_int min2_int max_two min_two max_three min_three max_four min_four
set_option linter.unusedVariables false
set_option linter.unusedSimpArgs false
def laws_szState.f (k : Nat) (l0_0 : List (List Int)) (l0_1 : List (List Int)) (a1 : Int) : Option (Int) := (laws_szByteSS.f k l0_0 a1).bind fun t152 => (if t152 < 0 then (some (-1)) else ((laws_szByteSS.f k l0_1 t152).bind fun t153 => (if t153 < 0 then (some (-1)) else (some t153))))
theorem laws_szState.mono : ∀ a0 a1 a2 k, LeO (laws_szState.f k a0 a1 a2) (laws_szState.f (k + 1) a0 a1 a2) := by
 intro a0 a1 a2 k
 unfold laws_szState.f
 repeat' first
   | (with_reducible exact laws_szByteSS.mono _ _ _)
   | (with_reducible exact LeO.refl _)
   | (with_reducible exact LeO.none _)
   | (with_reducible refine LeO.ite ?_ ?_)
   | (with_reducible refine LeO.bind ?_ (fun _ => ?_))
   | exact laws_szByteSS.mono _ _ _
   | exact LeO.none _
   | refine LeO.ite ?_ ?_
   | refine LeO.bind ?_ (fun _ => ?_)
end Go.Proofs.Ytmgmdnmfalepkaa.L

namespace Go.Proofs.Ytmgmdnmfalepkaa.HelpSta
open Go.RowKit Go.Proofs.YtmgmdnmfalepkaaW.PrintWords Go.Proofs.YtmgmdnmfalepkaaW.PrintMore Go.Proofs.Ytmgmdnmfalepkaa.Kit Go.Proofs.Ytmgmdnmfalepkaa.PKit Go.Proofs.Ytmgmdnmfalepkaa.L Go.Proofs.Ytmgmdnmfalepkaa.Ty
set_option linter.unusedVariables false
abbrev X := List (List Int) × List (List Int)
end Go.Proofs.Ytmgmdnmfalepkaa.HelpSta

namespace Go.Proofs
open Go.Shelf
def Try.lays189_ren : Go.Shelf.Ren := ⟨fun | 189 => 75 | 125 => 129 | 257 => 128 | 128 => 166 | 129 => 167 | 294 => 157 | 295 => 158 | 296 => 159 | 297 => 160 | 298 => 161 | 299 => 162 | 216 => 163 | 300 => 164 | 301 => 165 | 328 => 175 | 329 => 176 | 330 => 177 | 331 => 178 | 332 => 179 | 215 => 180 | 343 => 184 | n => n, fun | 28 => 22 | 3 => 3 | 46 => 140 | 0 => 0 | 51 => 157 | 53 => 183 | 4 => 4 | 183 => 175 | 182 => 174 | 131 => 89 | 5 => 5 | 9 => 9 | 218 => 188 | 222 => 192 | 228 => 197 | 229 => 149 | n => n, fun | n => n⟩
theorem Try.lays189 : Go.Proofs.Lays.n189 Try.prog Try.lays189_ren := {
 mixed := by kernel_rfl
 f125 := Try.func129.trans (congrArg some zq12)
 f128 := Try.func166.trans (congrArg some zq12)
 f129 := Try.func167.trans (congrArg some zq12)
 f189 := Try.func75.trans (congrArg some zq12)
 f215 := Try.func180.trans (congrArg some zq12)
 f216 := Try.func163.trans (congrArg some zq12)
 f257 := Try.func128.trans (congrArg some zq12)
 f294 := Try.func157.trans (congrArg some zq12)
 f295 := Try.func158.trans (congrArg some zq12)
 f296 := Try.func159.trans (congrArg some zq12)
 f297 := Try.func160.trans (congrArg some zq12)
 f298 := Try.func161.trans (congrArg some zq12)
 f299 := Try.func162.trans (congrArg some zq12)
 f300 := Try.func164.trans (congrArg some zq12)
 f301 := Try.func165.trans (congrArg some zq12)
 f328 := Try.func175.trans (congrArg some zq12)
 f329 := Try.func176.trans (congrArg some zq12)
 f330 := Try.func177.trans (congrArg some zq12)
 f331 := Try.func178.trans (congrArg some zq12)
 f332 := Try.func179.trans (congrArg some zq12)
 f343 := Try.func184.trans (congrArg some zq12)
 t0 := Try.underlying0
 a0 := Try.isAgg0
 z0 := Try.sizeOf0
 v0 := Try.zeroValue0
 t3 := Try.underlying3
 a3 := Try.isAgg3
 z3 := Try.sizeOf3
 v3 := Try.zeroValue3
 t4 := Try.underlying4
 a4 := Try.isAgg4
 z4 := Try.sizeOf4
 v4 := Try.zeroValue4
 t5 := Try.underlying5
 a5 := Try.isAgg5
 z5 := Try.sizeOf5
 v5 := Try.zeroValue5
 t9 := Try.underlying9
 a9 := Try.isAgg9
 z9 := Try.sizeOf9
 v9 := Try.zeroValue9
 t28 := Try.underlying22
 a28 := Try.isAgg22
 z28 := Try.sizeOf22
 v28 := Try.zeroValue22
 t46 := Try.underlying140
 a46 := Try.isAgg140
 z46 := Try.sizeOf140
 v46 := Try.zeroValue140
 t51 := Try.underlying157
 a51 := Try.isAgg157
 z51 := Try.sizeOf157
 v51 := Try.zeroValue157
 t53 := Try.underlying183
 a53 := Try.isAgg183
 z53 := Try.sizeOf183
 v53 := Try.zeroValue183
 t131 := Try.underlying89
 a131 := Try.isAgg89
 z131 := Try.sizeOf89
 v131 := Try.zeroValue89
 t182 := Try.underlying174
 a182 := Try.isAgg174
 z182 := Try.sizeOf174
 v182 := Try.zeroValue174
 t183 := Try.underlying175
 a183 := Try.isAgg175
 z183 := Try.sizeOf175
 v183 := Try.zeroValue175
 t218 := Try.underlying188
 a218 := Try.isAgg188
 z218 := Try.sizeOf188
 v218 := Try.zeroValue188
 t222 := Try.underlying192
 a222 := Try.isAgg192
 z222 := Try.sizeOf192
 v222 := Try.zeroValue192
 t228 := Try.underlying197
 a228 := Try.isAgg197
 z228 := Try.sizeOf197
 v228 := Try.zeroValue197
 t229 := Try.underlying149
 a229 := Try.isAgg149
 z229 := Try.sizeOf149
 v229 := Try.zeroValue149 }
open Go.Sort Go.RowKit in
theorem Try.slices_Sort_int (blk off cap : Nat) (zs : List Int) (w : World) (hH : Holds (Value.int .i64) w blk off zs.toArray) (hblk : blk < w.heap.size) (hsz : zs.length < 4611686018427387904) :
  Calls Try.prog 75 #[.slice (some ⟨blk, off, none⟩) zs.length cap] w fun e w' =>
   e = .returned (.tuple #[]) ∧ ∃ n os, w' = grow (putRow (Value.int .i64) (Sort.ahead w n) blk off (zs.mergeSort fun x y => decide (x ≤ y)).toArray) os := Any.slices_Sort_int Try.lays189 blk off cap zs w hH hblk hsz
def Try.laysNm220_ren : Go.Shelf.Ren := ⟨fun | 20 => 76 | n => n, fun | 22 => 22 | 3 => 3 | 4 => 4 | 0 => 0 | n => n, fun | n => n⟩
theorem Try.laysNm220 : Go.Proofs.Lays2.n20 Try.prog Try.laysNm220_ren := {
 mixed := by kernel_rfl
 f20 := Try.func76.trans (congrArg some zq12)
 t0 := Try.underlying0
 a0 := Try.isAgg0
 z0 := Try.sizeOf0
 v0 := Try.zeroValue0
 t3 := Try.underlying3
 a3 := Try.isAgg3
 z3 := Try.sizeOf3
 v3 := Try.zeroValue3
 t4 := Try.underlying4
 a4 := Try.isAgg4
 z4 := Try.sizeOf4
 v4 := Try.zeroValue4
 t22 := Try.underlying22
 a22 := Try.isAgg22
 z22 := Try.sizeOf22
 v22 := Try.zeroValue22
 i3 := by kernel_rfl }
open Go.RowKit Go.Lib Go.Sort in
theorem Try.slices_Compact_int (blk off cap : Nat) (zs : List Int) (w : World) (hH : Holds (Value.int .i64) w blk off zs.toArray) (hsz : zs.length ≤ 9223372036854775807) (hcap : zs.length ≤ cap) :
  Calls Try.prog 76 #[.slice (some ⟨blk, off, none⟩) zs.length cap] w fun e w' => e = .returned (.slice (some ⟨blk, off, none⟩) (Lib.compact zs).length cap) ∧ ∃ q, w' = putRow (Value.int .i64) (Sort.ahead w q) blk off (Lib.compact zs ++ List.replicate (zs.length - (Lib.compact zs).length) 0).toArray := Any.slices_Compact_int Try.laysNm220 blk off cap zs w hH hsz hcap
open Go.RowKit Go.Lib Go.Sort in
theorem Try.slices_Compact_int_empty (a : Option Addr) (cap : Nat) (w : World) :
  Calls Try.prog 76 #[.slice a 0 cap] w fun e w' => e = .returned (.slice a 0 cap) ∧ w' = w := Any.slices_Compact_int_empty Try.laysNm220 a cap w
open Go.RowKit Go.Sort in
theorem Try.slices_Sort_int_none (p : Option Addr) (cap : Nat) (w : World) :
  Calls Try.prog 75 #[.slice p 0 cap] w fun e w' => e = .returned (.tuple #[]) ∧ w' = w := Any.slices_Sort_int_none Try.lays189 p cap w
def Try.lays187_ren : Go.Shelf.Ren := ⟨fun | 187 => 137 | 255 => 169 | n => n, fun | 37 => 33 | 5 => 5 | 3 => 3 | n => n, fun | n => n⟩
theorem Try.lays187 : Go.Proofs.Lays.n187 Try.prog Try.lays187_ren := {
 mixed := by kernel_rfl
 f187 := Try.func137.trans (congrArg some zq12)
 f255 := Try.func169.trans (congrArg some zq12)
 t3 := Try.underlying3
 a3 := Try.isAgg3
 z3 := Try.sizeOf3
 v3 := Try.zeroValue3
 t5 := Try.underlying5
 a5 := Try.isAgg5
 z5 := Try.sizeOf5
 v5 := Try.zeroValue5
 t37 := Try.underlying33
 a37 := Try.isAgg33
 z37 := Try.sizeOf33
 v37 := Try.zeroValue33 }
open Go.RowKit Go.Lib in
theorem Try.bytes_IndexByte_at (a : Addr) (n c : Nat) (xs : List Int) (cv : Int) (w : World) (hx : xs.length = n) (hc : ∀ i, i < n → w.cell? (a.add i) = some (.int .u8 (xs.getD i 0))) :
  Calls Try.prog 137 #[.slice (some a) n c, .int .u8 cv] w fun e w' => e = .returned (.int .i64 (Lib.indexByte (Lib.bytesOf xs) cv.toNat.toUInt8)) ∧ w' = w := Any.bytes_IndexByte_at Try.lays187 a n c xs cv w hx hc
def Try.lays115_ren : Go.Shelf.Ren := ⟨fun | 115 => 104 | n => n, fun | 37 => 33 | 4 => 4 | 9 => 9 | 5 => 5 | n => n, fun | n => n⟩
theorem Try.lays115 : Go.Proofs.Lays.n115 Try.prog Try.lays115_ren := {
 mixed := by kernel_rfl
 f115 := Try.func104.trans (congrArg some zq12)
 t4 := Try.underlying4
 a4 := Try.isAgg4
 z4 := Try.sizeOf4
 v4 := Try.zeroValue4
 t9 := Try.underlying9
 a9 := Try.isAgg9
 z9 := Try.sizeOf9
 v9 := Try.zeroValue9
 t37 := Try.underlying33
 a37 := Try.isAgg33
 z37 := Try.sizeOf33
 v37 := Try.zeroValue33 }
theorem Try.bytes_Equal (v1 v2 : Value) (xs ys : List Int) (w : World) (h1 : (convert 33 9 v1).run Try.prog w = .ok (.string (strOfNums xs)) w) (h2 : (convert 33 9 v2).run Try.prog w = .ok (.string (strOfNums ys)) w) :
  Calls Try.prog 104 #[v1, v2] w fun e w' => e = .returned (.bool (Lib.bytesOf xs == Lib.bytesOf ys)) ∧ w' = w := Any.bytes_Equal Try.lays115 v1 v2 xs ys w h1 h2
end Go.Proofs

namespace Go.Proofs.Ytmgmdnmfalepkaa.Build
open Go.RowKit Go.Proofs.YtmgmdnmfalepkaaW.PrintWords Go.Proofs.YtmgmdnmfalepkaaW.PrintMore Go.Proofs.Ytmgmdnmfalepkaa.Kit Go.Proofs.Ytmgmdnmfalepkaa.PKit Go.Proofs.Ytmgmdnmfalepkaa.Ty Go.Proofs.Ytmgmdnmfalepkaa.HelpBB Go.Proofs.Ytmgmdnmfalepkaa.PSeg
set_option linter.unusedVariables false
theorem infoBB : (Try.prog.info? 33).map (fun i => (i.zero, i.size, i.bytes)) = some (some (.slice none 0 0), 1, 24) := by kernel_rfl
theorem infoB : (Try.prog.info? 5).map (fun i => (i.zero, i.size, i.bytes)) = some (some (.int .u8 0), 1, 1) := by kernel_rfl
theorem cellB {w : World} {ad : Addr} {n : Nat} {xs : List Int} (h : Kd.C (Kd.int .u8) w (some ad) n xs) (i : Nat) (hi : i < n) : w.cell? (ad.add i) = some (.int .u8 (xs.getD i 0)) := by
 obtain ⟨ad', c, e, _, hK, hc0⟩ := Kd.C_get h 0 (i : Int) zq3 zq3
 cases e
 rw [Int.toNat_natCast] at hK hc0
 have hk : c = [.int .u8 (xs.getD i 0)] := hK
 subst hk
 have := hc0 0 _ rfl
 simpa [Kd.int, Kd.scalar] using this
theorem index_neg (t : List Int) (hb : ∀ x ∈ t, 0 ≤ x ∧ x ≤ 255) : decide (Go.Lib.indexByte (Go.Lib.bytesOf t) ((10 : Int).toNat.toUInt8) < 0) = decide (10 ∉ t) := by
 induction t with
 | nil => rfl
 | cons x r ih =>
  have ih := ih (fun y hy => hb y (List.mem_cons_of_mem _ hy))
  obtain ⟨b0, b1⟩ := hb x (List.mem_cons_self ..)
  have e : Go.Lib.bytesOf (x :: r) = UInt8.ofNat x.toNat :: Go.Lib.bytesOf r := rfl
  rw [e]
  unfold Go.Lib.indexByte
  by_cases h10 : x = 10
  ·subst h10
   rw [if_pos (by rfl), decide_eq_false zq3, decide_eq_false zq14]
  ·have hne : (UInt8.ofNat x.toNat == (10 : Int).toNat.toUInt8) = false := by
    rw [beq_eq_false_iff_ne]
    intro h
    have h2 := congrArg UInt8.toNat h
    rw [UInt8.toNat_ofNat'] at h2
    have h3 : ((10 : Int).toNat.toUInt8).toNat = 10 := rfl
    rw [h3] at h2
    omega
   have em : decide (10 ∉ x :: r) = decide (10 ∉ r) := decide_eq_decide.2 (by
    constructor
    ·exact fun h hm => h (List.mem_cons_of_mem _ hm)
    ·exact fun h hm => by
      rcases List.mem_cons.1 hm with e | hm
      ·exact h10 e.symm
      ·exact h hm)
   rw [hne, if_neg zq14, em, ← ih]
   have hge := Go.Lib.indexByte_ge (Go.Lib.bytesOf r) ((10 : Int).toNat.toUInt8)
   generalize Go.Lib.indexByte (Go.Lib.bytesOf r) ((10 : Int).toNat.toUInt8) = q at hge ⊢
   by_cases hq : q = -1
   ·subst hq
    rfl
   ·have : (q == -1) = false := by rw [beq_eq_false_iff_ne]; exact hq
    rw [this, if_neg zq14]
    exact decide_eq_decide.2 zq3
set_option maxRecDepth 100000 in
theorem index_none (c : Nat) (cv : Int) (w : World) :
  Calls Try.prog 137 #[.slice none 0 c, .int .u8 cv] w fun e w' => e = .returned (.int .i64 (-1)) ∧ w' = w := by
 go_enter Try.func137, Try.ntmps137
 go_wp2
 rw [run_callFunc_extern Try.func169 zq12 zq12 zq12 (e := Extern.BytealgIndexByte.indexByte) zq12, Lib.run_indexByteNil w 0 c cv]
 simp only [Result.andThen]
 rw [Oper.upon_value]
 go_wp2
 go_ret
 exact ⟨rfl, rfl⟩
theorem index_calls (A : Option Addr) (c : Nat) (t : List Int) (w : World) (hr : Kd.C (Kd.int .u8) w A t.length t) (hc : t.length ≤ c) (hb : ∀ x ∈ t, 0 ≤ x ∧ x ≤ 255) :
  Calls Try.prog 137 #[.slice A t.length c, .int .u8 10] w fun e w' => (∃ q : Int, e = .returned (.int .i64 q) ∧ decide (q < 0) = decide (10 ∉ t)) ∧ w' = w := by
 rcases A with _ | ad
 ·have h0 : t = [] := by
   rcases t with _ | ⟨x, r⟩
   ·rfl
   ·obtain ⟨ad, h, _⟩ := hr.2.2 zq14
    cases h
  subst h0
  refine (index_none c 10 w).mono ?_
  rintro e w' ⟨rfl, rfl⟩
  exact ⟨⟨-1, rfl, zq13⟩, rfl⟩
 ·refine (Try.bytes_IndexByte_at ad t.length c t 10 w rfl (fun i hi => cellB hr i hi)).mono ?_
  rintro e w' ⟨rfl, rfl⟩
  exact ⟨⟨_, rfl, index_neg t hb⟩, rfl⟩
theorem one_calls (A : Option Addr) (c : Nat) (t : List Int) (w : World) (hr : Kd.C (Kd.int .u8) w A t.length t) (hc : t.length ≤ c) (hb : ∀ x ∈ t, 0 ≤ x ∧ x ≤ 255) :
  Calls Try.prog 93 #[.slice A t.length c] w fun e w' => e = .returned (.bool (decide (10 ∉ t))) ∧ w' = w := by
 have hi := index_calls A c t w hr hc hb
 clear hr hc hb
 go_enter Try.func93, Try.ntmps93
 go_wp2_with (go_at_call 137; refine hi.mono ?_; rintro e w' ⟨⟨q, rfl, hq⟩, rfl⟩)
 go_ret
 exact ⟨zq14, rfl⟩
set_option maxHeartbeats 2000000 in
theorem total_calls (A : Option Addr) (c : Nat) (ls : List (List Int)) (w : World) (hr : Kd.C kB w A ls.length ls) (hc : ls.length ≤ c) (hs : smallBB ls) :
  Calls Try.prog 94 #[.slice A ls.length c] w fun e w' => e = .returned (.int .i64 (totalB ls : Int)) ∧ w' = w := by
 have hs' : ls.length + totalB ls ≤ 1048576 := hs
 have HR := zA hr
 clear hr
 go_enter Try.func94, Try.ntmps94
 go_wp2
 go_loopg [3, 8] ls.length (fun gg s3 s8 wr => ∃ i : Nat, i ≤ ls.length ∧ ls.length - i ≤ gg ∧ s3 = .int .i64 (totalB (ls.take i) : Int) ∧ s8 = .int .i64 i ∧ wr = w)
 case atStart => exact ⟨0, zq3, zq3, by simp [totalB], rfl, rfl⟩
 case round =>
  obtain ⟨i, hi, hg, rfl, rfl, rfl⟩ := hrel
  by_cases hlt : i < ls.length
  ·have hltz : (i : Int) < (ls.length : Int) := by omega
   have ht := total_take ls (i + 1)
   rw [total_drop ls i hlt] at ht
   obtain ⟨ad, u, rfl, hcell, hK⟩ := get_one (d := kB) rfl HR.out [] i hlt
   obtain ⟨A', c', e', hc', hr'⟩ := hK
   obtain rfl : u = .slice A' (ls.getD i []).length c' := by injection e'
   clear hc' hr' e'
   have hd := total_drop ls i hlt
   generalize hx : ls.getD i [] = l at ht hcell hd
   clear hx
   go_wp2
   go_roundg (ls.length - (i + 1))
   case measure => omega
   case rel => exact ⟨i + 1, zq3, zq3, by rw [hd]; go_num, by go_num, rfl⟩
  ·have hltz : ¬ (i : Int) < (ls.length : Int) := by omega
   obtain rfl : i = ls.length := by omega
   go_wp2
   go_ret
   exact ⟨by first | rfl | simp, rfl⟩
theorem R_empty (W : World) : Kd.R (Kd.int .u8) 5 (W.alloc (.cells #[] 5)) W.heap.size (fun _ => True) (.slice (some ⟨W.heap.size, 0, none⟩) 0 0) [] :=
 Kd.R_of_own (xs := ([] : List Int)) ⟨rfl, .inr ⟨W.heap.size, 0, #[], rfl, Nat.le_refl _, heap_alloc_new W _, zq14, by simp [maxLen], rfl, rfl⟩⟩ (fun _ _ => trivial)
set_option maxRecDepth 100000 in
set_option maxHeartbeats 4000000 in
theorem copy_calls (A : Option Addr) (c : Nat) (ls : List (List Int)) (w : World) (hr : Kd.C kB w A ls.length ls) (hc : ls.length ≤ c) (hs : smallBB ls) :
  Calls Try.prog 95 #[.slice A ls.length c] w fun e w' => ∃ v, e = .returned v ∧ Kd.S kB 33 w' w.heap.size (fun _ => True) v ls ∧ Grew w w' := by
 have hs' : ls.length + totalB ls ≤ 1048576 := hs
 have HR := zA hr
 clear hr
 go_enter Try.func95, Try.ntmps95
 go_wp2
 go_loopg [3, 9] ls.length (fun gg s3 s9 wr => ∃ i : Nat, i ≤ ls.length ∧ ls.length - i ≤ gg ∧ s9 = .int .i64 i ∧ Aside0 (Kd.S kB 33 wr w.heap.size (fun _ => True) s3 (ls.take i)) ∧ Aside0 (Below w.heap.size w wr))
 case atStart => exact ⟨0, zq3, zq3, rfl, ⟨⟨fun _ => 0, fun _ _ => trivial, [], ⟨rfl, .inr ⟨w.heap.size, 0, #[], rfl, Nat.le_refl _, heap_alloc_new w _, zq14, by simp [maxLen], rfl, rfl⟩⟩, Reps.none _ _⟩⟩, ⟨below_alloc (Below.refl _ _) _⟩⟩
 case round =>
  obtain ⟨i, hi, hg, rfl, HS, HB⟩ := hrel
  by_cases hlt : i < ls.length
  ·have hltz : (i : Int) < (ls.length : Int) := by omega
   have ht := getD_len ls i
   obtain ⟨ad, u, rfl, hcell0, hK⟩ := get_one (d := kB) rfl HR.out [] i hlt
   obtain ⟨A', c', e', hc', hr'⟩ := hK
   obtain rfl : u = .slice A' (ls.getD i []).length c' := by injection e'
   have hcell : wr.cell? (ad.add i) = some (.slice A' (ls.getD i []).length c') := (HB.out.cell (World.block_lt_of_cell? w _ hcell0)).trans hcell0
   have HC := zA (Kd.C_below hr' HB.out)
   have hts := take_snoc ls i hlt
   clear hr' e' hcell0
   generalize hx : ls.getD i [] = l at ht hcell HC hts hc'
   clear hx
   go_wp2_with (first | (at_builtin; refine Kd.R_append_rows (Kd.int .u8) (Rr := (Kd.int .u8).K wr) (w0 := wr) wr.heap.size rfl (.tmp 14) (.tmp 15) 33 5 (.int .u8 0) 1 rfl Try.underlying33 infoB rfl zq13 zq13 (.slice (some ⟨wr.heap.size, 0, none⟩) 0 0) [] l A' l.length c' (fun _ => True) (fun _ => False) rfl rfl (R_empty wr) (Kd.C_alloc HC.out _) (fun x cs h => h) (fun _ h => h.elim) (fun _ _ => trivial) (below_alloc (Below.refl _ _) _) zq14 zq42 ?_; rintro v1 w1 hR1 hB1 hg1 hat1; rw [List.nil_append] at hR1; obtain ⟨Av, cv, rfl⟩ := Kd.R_slice hR1) | (at_builtin; refine Kd.S_append kB (w0 := w) w.heap.size rfl (.tmp 13) (.tmp 17) 41 33 (.slice none 0 0) 24 rfl Try.underlying41 infoBB rfl zq13 zq3 u3 (ls.take i) l [.slice Av l.length cv] (fun _ => True) (fun k_ => some k_ = (.slice Av l.length cv : Value).ownBlock) rfl rfl ?aP ?aK (fun _ _ => trivial) ?aO ?aB ?aS ?aL ?_; (case aP => exact Kd.M_row (Kd.R_lower (Kd.R_tight rfl hR1) HB.out.size)); (case aK => exact fun k hk => ⟨trivial, fun e => by have h1 := Kd.R_base hR1 k hk.symm; have h2 := Kd.S_lt HS.out k e.symm; omega⟩); (case aO => exact Kd.S_mono (Kd.S_old HS.out hB1) (fun k hk => ⟨trivial, fun e => by have h1 := Kd.R_base hR1 k e.symm; have h2 := hk.2; omega⟩)); (case aB => exact grew_trans HB.out hB1); (case aS => exact (grew_trans HB.out hB1).size); (case aL => (rw [List.length_take]; omega)); intro v2 w2 hO2 hB2 hg2 hat2))
   go_roundg (ls.length - (i + 1))
   case measure => omega
   case rel => exact ⟨i + 1, zq3, zq3, by go_num, ⟨by rw [hts]; exact hO2⟩, ⟨hB2⟩⟩
  ·have hltz : ¬ (i : Int) < (ls.length : Int) := by omega
   obtain rfl : i = ls.length := by omega
   have h2 := HS.out
   rw [List.take_length] at h2
   have H2 := zA h2
   clear h2
   go_wp2
   go_ret
   exact ⟨_, rfl, H2.out, HB.out⟩
end Go.Proofs.Ytmgmdnmfalepkaa.Build

namespace Go.Proofs.Ytmgmdnmfalepkaa.PSort
open Go.RowKit Go.Proofs.YtmgmdnmfalepkaaW.PrintWords Go.Proofs.Ytmgmdnmfalepkaa.PKit
theorem upTo_spec (zs : List Int) (hs : zs.Pairwise (· ≤ ·)) : ∀ m, m ≤ zs.length → Asc (Go.Lib.compactUpTo zs.toArray m) ∧ ∀ x, x ∈ Go.Lib.compactUpTo zs.toArray m ↔ x ∈ zs.take m := by
  intro m
  induction m with
  | zero =>
    intro _
    have e : Go.Lib.compactUpTo zs.toArray 0 = [] := rfl
    rw [e]
    simp
  | succ m ih =>
    intro hm
    obtain ⟨h1, h2⟩ := ih zq3
    have ht : zs.take (m + 1) = zs.take m ++ [zs[m]] := List.take_succ_eq_append_getElem zq3
    have hg : zs.toArray[m]! = zs[m] := by simp [getElem!_pos, show m < zs.length by omega]
    have hmon : ∀ i j (hi : i < zs.length) (hj : j < zs.length), i < j → zs[i] ≤ zs[j] := fun i j hi hj hij => List.pairwise_iff_getElem.1 hs i j hi hj hij
    rw [Go.Lib.compactUpTo_succ, ht]
    by_cases hk : Go.Lib.keeps zs.toArray m = true
    · rw [if_pos hk, hg]
      constructor
      · refine List.pairwise_append.2 ⟨h1, zq14, fun a ha b hb => ?_⟩
        obtain rfl : b = zs[m] := by simpa using hb
        have ha' := (h2 a).1 ha
        obtain ⟨i, hi, rfl⟩ := List.getElem_of_mem ha'
        rw [List.length_take] at hi
        rw [List.getElem_take]
        have hm0 : m ≠ 0 := by omega
        unfold Go.Lib.keeps at hk
        have hk := of_decide_eq_true hk
        rcases hk with hk | hk
        · exact absurd hk hm0
        · have hg1 : zs.toArray[m - 1]! = zs[m - 1] := by simp [getElem!_pos, show m - 1 < zs.length by omega]
          rw [hg, hg1] at hk
          have e1 : zs[i] ≤ zs[m - 1] := by
            by_cases hi1 : i = m - 1
            · subst hi1; exact Int.le_refl _
            · exact hmon i (m - 1) zq3 zq3 zq3
          have e2 := hmon (m - 1) m zq3 zq3 zq3
          omega
      · intro x
        rw [List.mem_append, List.mem_append, h2 x]
    · rw [if_neg hk, List.append_nil]
      refine ⟨h1, fun x => ?_⟩
      rw [h2 x, List.mem_append]
      constructor
      · exact .inl
      · rintro (h | h)
        · exact h
        · obtain rfl : x = zs[m] := by simpa using h
          unfold Go.Lib.keeps at hk
          have hk : ¬ (m = 0 ∨ zs.toArray[m]! ≠ zs.toArray[m - 1]!) := fun hh => hk (decide_eq_true hh)
          have hm0 : m ≠ 0 := fun e => hk (.inl e)
          have hg1 : zs.toArray[m - 1]! = zs[m - 1] := by simp [getElem!_pos, show m - 1 < zs.length by omega]
          have he : zs[m] = zs[m - 1] := by
            have := Decidable.not_not.1 (fun hh => hk (.inr hh))
            rwa [hg, hg1] at this
          rw [he]
          exact List.mem_take_iff_getElem.2 ⟨m - 1, zq3, rfl⟩
theorem compact_sorted (l zs : List Int) (hs : zs.Pairwise (· ≤ ·)) (hm : ∀ x, x ∈ zs ↔ x ∈ l) : Go.Lib.compact zs = ord l := by
  obtain ⟨h1, h2⟩ := upTo_spec zs hs zs.length (Nat.le_refl _)
  refine ord_unique h1 (fun x => ?_)
  have h3 := h2 x
  rw [List.take_length, hm x] at h3
  exact h3
theorem sorted_pairwise (l : List Int) : (l.mergeSort fun x y => decide (x ≤ y)).Pairwise (· ≤ ·) := by
  have := List.pairwise_mergeSort (le := fun x y : Int => decide (x ≤ y)) (fun a b c h1 h2 => by simp at h1 h2 ⊢; omega) (fun a b => by simp; omega) l
  exact this.imp (fun h => by simpa using h)
theorem sort_compact (l : List Int) : Go.Lib.compact (l.mergeSort fun x y => decide (x ≤ y)) = ord l :=
 compact_sorted l _ (sorted_pairwise l) (fun _ => List.mem_mergeSort)
end Go.Proofs.Ytmgmdnmfalepkaa.PSort

namespace Go.Proofs.Ytmgmdnmfalepkaa.SortI
open Go.RowKit Go.Sort Go.Proofs.YtmgmdnmfalepkaaW.PrintWords Go.Proofs.YtmgmdnmfalepkaaW.PrintMore Go.Proofs.Ytmgmdnmfalepkaa.Kit Go.Proofs.Ytmgmdnmfalepkaa.PKit Go.Proofs.Ytmgmdnmfalepkaa.PSort
set_option linter.unusedVariables false
abbrev srt (l : List Int) : List Int := l.mergeSort fun x y => decide (x ≤ y)
theorem srt_length (l : List Int) : (srt l).length = l.length := List.length_mergeSort l
theorem encs_int (xs : List Int) : encs (Value.int .i64) xs = xs.map (Value.int .i64) := rfl
theorem R_block {w : World} {base : Nat} {ok : Nat → Prop} {v : Value} {xs : List Int} (h : Kd.R (Kd.int .i64) 3 w base ok v xs) :
  (v = .slice none 0 0 ∧ xs = []) ∨ ∃ g cap cur, v = .slice (some ⟨g, 0, none⟩) xs.length cap ∧ base ≤ g ∧ ok g ∧ w.heap[g]? = some (.cells cur 3 (0, 0)) ∧ xs.length ≤ cap ∧ cap ≤ maxLen ∧ cur.size = cap * 1 ∧ cur.toList.take xs.length = xs.map (Value.int .i64) := by
 have ho := Kd.own_of_R h
 rcases ho.2 with ⟨rfl, hn⟩ | ⟨g, cap, cur, rfl, hg, hb, h1, h2, h3, h4⟩
 ·exact .inl ⟨rfl, List.eq_nil_of_length_eq_zero hn⟩
 ·exact .inr ⟨g, cap, cur, rfl, hg, h.1 g rfl, hb, h1, h2, h3, by simpa [encs_int] using h4⟩
theorem sort_calls (v : Value) (xs : List Int) (base : Nat) (ok : Nat → Prop) (w : World) (h : Kd.R (Kd.int .i64) 3 w base ok v xs) (hl : xs.length < 4611686018427387904) :
  Calls Try.prog 75 #[v] w fun e w' => e = .returned (.tuple #[]) ∧ Kd.R (Kd.int .i64) 3 w' base ok v (srt xs) ∧ w.grownBy w' v.ownBlock := by
 rcases R_block h with ⟨rfl, rfl⟩ | ⟨g, cap, cur, rfl, hg, hok, hb, h1, h2, h3, h4⟩
 ·refine (Try.slices_Sort_int_none none 0 w).mono ?_
  rintro e w' ⟨rfl, rfl⟩
  exact ⟨rfl, by simpa [srt] using h, World.grownBy.refl _ _⟩
 ·refine (Try.slices_Sort_int g 0 cap xs w (holds_of_blockI hb h4) (Array.getElem?_eq_some_iff.1 hb).1 hl).mono ?_
  rintro e w' ⟨rfl, n, os, rfl⟩
  refine ⟨rfl, ?_, grownBy_sortedI _⟩
  have ho := ownsRow_sortedI (n := n) (os := os) (ts := srt xs) (srt_length xs) hg hb h1 h2 h3
  refine Kd.R_of_own (by rw [srt_length]; exact ho) (fun k hk => ?_)
  have : g = k := by simpa [Value.ownBlock] using hk
  subst this
  exact hok
theorem grow_nil (W : World) : grow W #[] = W := by simp [grow]
theorem compact_len (xs : List Int) : (Go.Lib.compact xs).length ≤ xs.length := by
 unfold Go.Lib.compact Go.Lib.compactUpTo
 rw [List.length_map]
 refine Nat.le_trans (List.length_filter_le _ _) ?_
 simp
theorem compact_calls (v : Value) (xs : List Int) (base : Nat) (ok : Nat → Prop) (w : World) (h : Kd.R (Kd.int .i64) 3 w base ok v xs) :
  Calls Try.prog 76 #[v] w fun e w' => ∃ v', e = .returned v' ∧ Kd.R (Kd.int .i64) 3 w' base ok v' (Go.Lib.compact xs) ∧ w.grownBy w' v.ownBlock := by
 rcases R_block h with ⟨rfl, rfl⟩ | ⟨g, cap, cur, rfl, hg, hok, hb, h1, h2, h3, h4⟩
 ·refine (Try.slices_Compact_int_empty none 0 w).mono ?_
  rintro e w' ⟨rfl, rfl⟩
  exact ⟨_, rfl, Kd.R_nil _ _ _ _ _, World.grownBy.refl _ _⟩
 ·refine (Try.slices_Compact_int g 0 cap xs w (holds_of_blockI hb h4) (by unfold maxLen at h2; omega) h1).mono ?_
  rintro e w' ⟨rfl, q, rfl⟩
  refine ⟨_, rfl, ?_, by have := grownBy_sortedI (w := w) (g := g) (n := q) (os := #[]) (Go.Lib.compact xs ++ List.replicate (xs.length - (Go.Lib.compact xs).length) 0).toArray; rwa [grow_nil] at this⟩
  have hcl := compact_len xs
  have hlen : (Go.Lib.compact xs ++ List.replicate (xs.length - (Go.Lib.compact xs).length) 0).length = xs.length := by simp; omega
  have ho := ownsRow_sortedI (n := q) (os := #[]) (ts := Go.Lib.compact xs ++ List.replicate (xs.length - (Go.Lib.compact xs).length) 0) hlen hg hb h1 h2 h3
  have hR : Kd.R (Kd.int .i64) 3 _ base ok (.slice (some ⟨g, 0, none⟩) xs.length cap) (Go.Lib.compact xs ++ List.replicate (xs.length - (Go.Lib.compact xs).length) 0) := Kd.R_of_own (by rw [hlen]; exact ho) (fun k hk => by
   have : g = k := by simpa [Value.ownBlock] using hk
   subst this
   exact hok)
  have ht := Kd.R_take hR (m := (Go.Lib.compact xs).length) (by rw [hlen]; exact hcl)
  rw [List.take_left' rfl, grow_nil] at ht
  exact ht
end Go.Proofs.Ytmgmdnmfalepkaa.SortI

namespace Go.Proofs
open Go.Shelf
def Try.sorted96_ren : Go.Shelf.Ren := ⟨fun | 6 => 96 | 8 => 138 | 9 => 75 | 11 => 170 | 13 => 129 | 12 => 128 | 23 => 166 | 24 => 167 | 14 => 157 | 15 => 158 | 16 => 159 | 17 => 160 | 18 => 161 | 19 => 162 | 20 => 163 | 21 => 164 | 22 => 165 | 25 => 175 | 26 => 176 | 27 => 177 | 28 => 178 | 29 => 179 | 30 => 180 | 31 => 184 | n => n, fun | 26 => 3 | 28 => 94 | 24 => 22 | 0 => 0 | 3 => 3 | 37 => 140 | 48 => 157 | 50 => 183 | 4 => 4 | 40 => 175 | 39 => 174 | 45 => 89 | 5 => 5 | 9 => 9 | 51 => 188 | 55 => 192 | 57 => 197 | 58 => 149 | 33 => 107 | n => n, fun | n => n⟩
theorem Try.sorted96 : Go.Proofs.SlLaysZI.n6 Try.prog Try.sorted96_ren := {
 mixed := by kernel_rfl
 f6 := ⟨Try.f96.name, zq13, Try.func96.trans (congrArg some zq12)⟩
 f8 := ⟨Try.f138.name, zq13, Try.func138.trans (congrArg some zq12)⟩
 f11 := ⟨Try.f170.name, zq13, Try.func170.trans (congrArg some zq12)⟩
 t0 := Try.underlying0
 a0 := Try.isAgg0
 z0 := Try.sizeOf0
 v0 := Try.zeroValue0
 t24 := Try.underlying22
 a24 := Try.isAgg22
 z24 := Try.sizeOf22
 v24 := Try.zeroValue22
 t26 := Try.underlying3
 a26 := Try.isAgg3
 z26 := Try.sizeOf3
 v26 := Try.zeroValue3
 t28 := Try.underlying94
 a28 := Try.isAgg94
 z28 := Try.sizeOf94
 v28 := Try.zeroValue94
 i26 := by kernel_rfl }
def Try.keys97_ren : Go.Shelf.Ren := ⟨fun | 7 => 97 | 10 => 139 | n => n, fun | 23 => 104 | 26 => 3 | 3 => 22 | 28 => 94 | 0 => 0 | 27 => 93 | 33 => 107 | 4 => 4 | n => n, fun | n => n⟩
theorem Try.keys97 : Go.Proofs.SlLaysZI.n7 Try.prog Try.keys97_ren := {
 mixed := by kernel_rfl
 f7 := ⟨Try.f97.name, zq13, Try.func97.trans (congrArg some zq12)⟩
 f10 := ⟨Try.f139.name, zq13, Try.func139.trans (congrArg some zq12)⟩
 t0 := Try.underlying0
 a0 := Try.isAgg0
 z0 := Try.sizeOf0
 v0 := Try.zeroValue0
 t4 := Try.underlying4
 a4 := Try.isAgg4
 z4 := Try.sizeOf4
 v4 := Try.zeroValue4
 t23 := Try.underlying104
 a23 := Try.isAgg104
 z23 := Try.sizeOf104
 v23 := Try.zeroValue104
 t26 := Try.underlying3
 a26 := Try.isAgg3
 z26 := Try.sizeOf3
 v26 := Try.zeroValue3
 t27 := Try.underlying93
 a27 := Try.isAgg93
 z27 := Try.sizeOf93
 v27 := Try.zeroValue93
 t28 := Try.underlying94
 a28 := Try.isAgg94
 z28 := Try.sizeOf94
 v28 := Try.zeroValue94
 t33 := Try.underlying107
 a33 := Try.isAgg107
 z33 := Try.sizeOf107
 v33 := Try.zeroValue107 }
end Go.Proofs

namespace Go.Proofs.Ytmgmdnmfalepkaa.MapG
open Go Go.ChangeMaps Go.ChangeShapes Go.RowKit Go.Sort Go.Maps Go.Shelf Go.Proofs.YtmgmdnmfalepkaaW.PrintWords Go.Proofs.YtmgmdnmfalepkaaW.PrintMore Go.Proofs.Ytmgmdnmfalepkaa.Kit Go.Proofs.Ytmgmdnmfalepkaa.PKit Go.Proofs.Ytmgmdnmfalepkaa.PSort
set_option linter.unusedVariables false
def dat (zs : List Int) : DataW Unit := match zs with | [] => .nil | z :: r => .slice (lits .i64 (z :: r)) []
theorem dat_cons {zs : List Int} (h : zs ≠ []) : dat zs = .slice (lits .i64 zs) [] := by
 cases zs with
 | nil => exact absurd rfl h
 | cons z r => rfl
theorem lits_inj {xs ys : List Int} (h : (lits .i64 xs : List (DataW Unit)) = lits .i64 ys) : xs = ys := by
 unfold lits at h
 exact (List.map_inj_right (fun a b e => by simpa using e)).1 h
theorem dat_inj {w : World} {base : Nat} {e : TypeId} {v : Value} {zs ys : List Int} (ho : w.ownsInts base e .i64 v zs) (h : dat ys = rowDatum (H := Unit) .i64 v zs) : zs = ys := by
 rcases ho.datum (H := Unit) with ⟨h1, h2⟩ | h1
 ·rw [h1] at h
  rw [h2]
  cases ys with
  | nil => rfl
  | cons y r => cases h
 ·rw [h1] at h
  cases ys with
  | nil => cases h
  | cons y r =>
   rw [dat_cons zq14] at h
   exact (lits_inj (by injection h)).symm
structure Grp (f : Int → List Int) (D : DataW Unit) : Prop where
 at_ : ∀ k, D.atKey (.int .i64 k) .nil = dat (f k)
 has_ : ∀ k, Maps.has D (.int .i64 k) = true ↔ f k ≠ []
 map_ : IsMap D
theorem Grp.start : Grp (fun _ => []) (.map []) := ⟨fun _ => rfl, fun k => by simp [Maps.has_eq], isMap_empty⟩
theorem Grp.put {f g : Int → List Int} {D : DataW Unit} (h : Grp f D) {k : Int} {d : DataW Unit} (hd : d = dat (g k)) (hk : g k ≠ []) (ho : ∀ j, j ≠ k → g j = f j) : Grp g (D.put (.int .i64 k) d) where
 at_ := fun j => by
  by_cases hj : j = k
  ·subst hj
   rw [atKey_put_same h.map_ (by trivial), hd]
  ·rw [atKey_put_other (fun e => hj (by simpa using e)), h.at_ j, ho j hj]
 has_ := fun j => by
  by_cases hj : j = k
  ·subst hj
   rw [has_put_same h.map_ (by trivial)]
   simp [hk]
  ·rw [has_put_other (fun e => hj (by simpa using e)), h.has_ j, ho j hj]
 map_ := h.map_.put _ _
theorem Grp.congr {f g : Int → List Int} {D : DataW Unit} (h : Grp f D) (e : ∀ k, f k = g k) : Grp g D := by
 have : f = g := funext e
 exact this ▸ h
theorem keyedI : Keyed Try.prog 3 := int_keyed Try.underlying3
theorem keyI (x : Int) (hx : -9223372036854775808 ≤ x ∧ x ≤ 9223372036854775807) : keyOf Try.prog 3 (.int .i64 x) = some (.int .i64 x) := by
 have hw : (Lit.int .i64 x).wf = true := by exact WalkArith.wf_i64 hx
 simp [keyOf, Try.underlying3, mapKey, hw]
theorem zeroR (W : World) : (zeroValue 22).run Try.prog W = .ok (.slice none 0 0) W := Try.zeroValue22 W
theorem entries {w : World} {base b n : Nat} {D : DataW Unit} (h : w.ownsGroups Try.prog 3 base 3 .i64 b n D) : ∃ Ent : Value → Value → Prop,
  (∀ (W : World) (x : Int), W.heap[b]? = w.heap[b]? → (-9223372036854775808 ≤ x ∧ x ≤ 9223372036854775807) → ∃ v zs, (Instr.lookup 104 (.map (some b)) (.int .i64 x) false).run Try.prog W = .ok v W ∧ D.atKey (.int .i64 x) .nil = rowDatum .i64 v zs ∧ w.ownsInts base 3 .i64 v zs ∧ Ent (.int .i64 x) v) ∧
  (∀ k1 v1 k2 v2, Ent k1 v1 → Ent k2 v2 → k1 ≠ k2 → ∀ g, some g = v1.ownBlock → some g = v2.ownBlock → False) := by
 obtain ⟨es, clock, hb, F, hs, rfl, hbb, hlen, hap⟩ := h
 refine ⟨fun k v => v = .slice none 0 0 ∨ ∃ e0 ∈ es.toList, e0.key = k ∧ e0.val = v, fun W x hW hx => ?_, ?_⟩
 ·rcases Maps.fit_look false keyedI Try.underlying104 (zeroR W) (hW.trans hb) F (keyI x hx) with ⟨hrun, _, hat⟩ | ⟨e0, y, hm0, h3, hrun, hR, hat, _⟩
  ·exact ⟨.slice none 0 0, [], hrun, hat _, World.ownsInts_nil _ _ _ _, .inl rfl⟩
  ·obtain ⟨zs, ho, rfl⟩ := rowElem_inv hR
   exact ⟨e0.val, zs, hrun, hat _, ho, .inr ⟨e0, hm0, h3, rfl⟩⟩
 ·rintro k1 v1 k2 v2 h1 h2 hne g hg1 hg2
  rcases h1 with rfl | ⟨e1, m1, rfl, rfl⟩
  ·simp [Value.ownBlock] at hg1
  rcases h2 with rfl | ⟨e2, m2, rfl, rfl⟩
  ·simp [Value.ownBlock] at hg2
  rcases hap e1 m1 e2 m2 hne with h | h
  ·rw [h] at hg1
   cases hg1
  ·exact h (hg1.symm.trans hg2)
theorem sorted_ord {L ss : List Int} (h : ss.Perm (ord L)) : ss.mergeSort (fun x y => decide (x ≤ y)) = ord L := by
 rw [mergeSort_of_perm_i h]
 refine List.mergeSort_of_pairwise ?_
 exact (asc_ord L).imp (fun {a b} hab => by simp only [decide_eq_true_eq]; omega)
theorem keys_perm {w : World} {R : Value → Option (DataW Unit × List MemPlace)} {b n : Nat} {D : DataW Unit} {f : Int → List Int} {L : List Int} (hown : w.ownsMap Try.prog 3 R b n D) (hD : Grp f D) (hL : ∀ k, f k ≠ [] ↔ k ∈ L) : (ord L).Perm (intKeys D) := by
 obtain ⟨es, e1, hpw, _⟩ := hown.entries keyedI
 obtain ⟨es', e2, hko⟩ := hown.keysOf
 obtain rfl : es = es' := by rw [e1] at e2; simpa using e2
 subst e1
 refine perm_intKeys hpw (fun p hp => ?_) ((asc_ord L).imp (fun {a b} hab => by intro e; omega)) (fun x => ?_)
 ·obtain ⟨v, hv⟩ := hko p hp
  obtain ⟨x, _, hx, _⟩ := Maps.keyOf_i64 Try.underlying3 hv
  exact ⟨x, hx⟩
 ·rw [mem_ord, hD.has_ x, hL x]
theorem sortsIn (m : Nat) : AnyZI.SortsIn Try.prog Try.sorted96_ren Fence.wide m :=
  ⟨fun blk off cap ss W hH hblk hsz => callsIn_wide.2 (Try.slices_Sort_int blk off cap ss W hH hblk hsz),
   fun p cap W => callsIn_wide.2 (Try.slices_Sort_int_none p cap W)⟩
theorem keys_calls (mb : Option Nat) (W : World) : Calls Try.prog 97 #[.map mb] W fun e w' => e = .returned (.func (.func 139) #[] #[.pointer (some ⟨W.heap.size, 0, none⟩)]) ∧ w' = W.alloc (.cells #[.map mb] 104) :=
 (callsIn_wide (n := 6)).1 (AnyZI.keys_in Try.keys97 Fence.wide 6 trivial rfl mb W)
theorem sorted_calls {R : Value → Option (DataW Unit × List MemPlace)} {b n : Nat} {D : DataW Unit} {f : Int → List Int} {L : List Int} (w : World) (hown : w.ownsMap Try.prog 3 R b n D) (hD : Grp f D) (hL : ∀ k, f k ≠ [] ↔ k ∈ L) (hn : n * 8 ≤ 140737488355328) :
  Calls Try.prog 96 #[.func (.func 139) #[] #[.pointer (some ⟨w.heap.size, 0, none⟩)]] (w.alloc (.cells #[.map (some b)] 104)) fun e w' =>
   ∃ v, e = .returned v ∧ Kd.R (Kd.int .i64) 3 w' w.heap.size (fun _ => True) v (ord L) ∧ Below w.heap.size w w' := by
 have hsz := hown.size_le
 have hown' : (w.alloc (.cells #[.map (some b)] 104)).ownsMap Try.prog 3 R b n D := hown.alloc _
 have hseq : SeqGives Fence.wide 2 Try.prog 139 #[.pointer (some ⟨w.heap.size, 0, none⟩)] encZ (fun ss => ss.Perm (intKeys D)) (Maps.size D) (w.alloc (.cells #[.map (some b)] 104)) :=
  AnyZI.keys_gives (ρ := Try.keys97_ren) { Try.keys97 with } Fence.wide _ trivial rfl zq3 w.heap.size b n D _ zq14 zq14 hown'
 have cS := AnyZI.sorted_in Try.sorted96 Fence.wide 5 trivial trivial trivial trivial rfl zq3 (sortsIn _) (enters_of Try.func75 zq12 rfl) 139 #[.pointer (some ⟨w.heap.size, 0, none⟩)] trivial (enters_of Try.func139 zq12 rfl) _ _ (by unfold maxLen; omega) zq3 _ hseq
 change CallsIn _ _ Try.prog 96 _ _ _ at cS
 refine (callsIn_wide.1 cS).mono ?_
 rintro e w' ⟨v, ss, rfl, hS, hrow, hnil, hb⟩
 have hp : ss.Perm (ord L) := hS.trans (keys_perm hown hD hL).symm
 rw [sorted_ord hp] at hrow
 have hl : ss.length = (ord L).length := hp.length_eq
 rw [hl] at hrow
 refine ⟨v, rfl, Kd.R_of_own (ownsRow_base_a hrow zq14) (fun _ _ => trivial), ((Below.refl _ w).alloc (Nat.le_refl _) _).trans (hb.mono zq14)⟩
end Go.Proofs.Ytmgmdnmfalepkaa.MapG

namespace Go.Proofs.Ytmgmdnmfalepkaa.StillIn
open Go
variable {m : Nat} {P : Program} {ops : Array Oper} {md : Region.Mode} {w : World}
theorem wpIn_of_still {o : Oper} {a : Act} {K : Act → Prop} {K' : Act → World → Prop} {Q' : Exit → Act → World → Prop} (h : ∀ a, K a → K' a w) (hh : o.still P a w K) : o.wpIn Fence.wide m P a w K' Q' := by
 unfold Oper.still at hh
 unfold Oper.wpIn
 refine ⟨fun _ _ => trivial, ?_⟩
 simp only [Fence.wide_round, Oper.semAt_none]
 generalize (execOp a.eval o).run P w = r at *
 cases r with
 | ok nx w' =>
  cases nx <;> simp only [Oper.stillUpon] at hh <;> simp only [Oper.uponIn]
  case enter f args =>
   obtain ⟨rfl, v, hc, hn⟩ := hh
   refine ⟨(fun hd => by cases hd), callsIn_wide.2 (hc.mono fun e w'' ⟨he, hw⟩ => ?_)⟩
   subst he
   subst hw
   exact h _ hn
  all_goals (obtain ⟨rfl, h2⟩ := hh; exact h _ h2)
 | halt x w' => simp only [Oper.stillUpon] at hh
theorem wpOpIn_of_stOp {i : Nat} {a : Act} {K : Act → Prop} {K' : Act → World → Prop} {Q' : Exit → Act → World → Prop} (h : ∀ a, K a → K' a w) (hh : stOp P ops w i K a) : wpOpIn Fence.wide m P ops Q' i K' a w := by
 unfold stOp at hh
 unfold wpOpIn
 split
 ·rename_i ho
  simp only [ho] at hh
  exact h _ hh
 ·rename_i o ho
  simp only [ho] at hh
  split
  ·rename_i hw
   simp only [hw, if_true] at hh
   exact wpIn_of_still h hh
  ·rename_i hw
   simp only [hw] at hh
   exact ⟨fun _ _ => trivial, h _ hh⟩
theorem wpAnyIn_of_head {n g : Nat} {L : Array Bool → Act → Prop} {Q' : Exit → Act → World → Prop} (hL : ∀ listed a, L listed a → wpAnyIn Fence.wide m P md ops Q' g listed a w) :
  ∀ (f : Nat) (listed : Array Bool) (a : Act), wpAnyL P md ops w n L f listed a → wpAnyIn Fence.wide m P md ops Q' (f + g) listed a w
 | 0, listed, a, h => by rw [Nat.zero_add]; exact hL _ _ h
 | f + 1, listed, a, h => by
  rw [show f + 1 + g = (f + g) + 1 by omega]
  exact ⟨fun h0 => absurd h0 h.1, fun i hi => wpOpIn_of_stOp (fun a' h' => wpAnyIn_of_head hL f _ a' h') (h.2 i hi).2⟩
theorem wpAnyIn_of_seq {Q' : Exit → Act → World → Prop} : ∀ (l : List Oper) (k : Nat) (listed : Array Bool) (a : Act) (w : World), (∀ j : Nat, l[j]? = ops[k + j]?) →
  Region.seqB md ops l.length k listed = true → wpListIn Fence.wide m P ops Q' l a w → wpAnyIn Fence.wide m P md ops Q' l.length listed a w
 | [], _, _, _, _, _, hB, h => ⟨by simpa [Region.seqB] using hB, h⟩
 | o :: l, k, listed, a, w, hl, hB, h => by
  have h0 : ops[k]? = some o := by simpa using (hl 0).symm
  simp only [List.length_cons, Region.seqB, Bool.and_eq_true, decide_eq_true_eq] at hB
  refine ⟨fun h1 => (by rw [hB.1] at h1; cases h1), fun i hi => ?_⟩
  rw [hB.1] at hi
  have hik : i = k := by simpa using hi
  subst hik
  have hw : wpOpIn Fence.wide m P ops Q' i (wpListIn Fence.wide m P ops Q' l) a w := by unfold wpOpIn; simp only [h0]; exact h
  exact wpOpIn_mono (fun a' w' h' => wpAnyIn_of_seq l (i + 1) _ a' w' (fun j => by have := hl (j + 1); simpa [Nat.add_assoc, Nat.add_comm 1 j] using this) hB.2 h') hw
theorem wpIn_region_still_tail {id : Nat} {Q : Exit → Act → World → Prop} {a : Act} {w : World} {l : List Oper} (n : Nat) (hm : P.follows .mixedOrders = true) (hB : Region.lexTailB .any l.toArray n = true)
  (h : wpStill P l.toArray w.drew (fun a' => wpListIn Fence.wide m P l.toArray Q (l.drop n) a' w.drew) (l.take n) a) : (Code.region id l.toArray true).wpIn Fence.wide m P Q a w := by
 simp only [Region.lexTailB, Bool.and_eq_true, decide_eq_true_eq] at hB
 obtain ⟨⟨⟨⟨hsel, hn⟩, hs⟩, hc⟩, hlex⟩ := hB
 have hn' : n < l.length := by simpa using hn
 have htl : (l.take n).length = n := by simp; omega
 have hdl : (l.drop n).length = l.toArray.size - n := by simp
 have inv0 : HeadInv .any l.toArray n (Array.replicate l.toArray.size false) :=
  ⟨zq14, fun j oj _ hl => (by rw [getD_replicate_false] at hl; cases hl), fun t _ ht => getD_in (by simpa using ht) (getD_replicate_false _ _)⟩
 have H := wpAnyL_lex (md := .any) (g := l.toArray.size - n) hsel hs hc hn (l.take n) 0 _ a (fun j hj => by
  have hj' : j < n := by rw [htl] at hj; exact hj
  simp [hj']) (by simpa using htl) inv0 (by rw [htl]; exact hlex) h
 refine wpIn_region_any hm ?_
 have := wpAnyIn_of_head (m := m) (Q' := Q) (g := l.toArray.size - n) (fun listed a' hL => by
  have := wpAnyIn_of_seq (m := m) (md := .any) (Q' := Q) (l.drop n) n listed a' w.drew (fun j => by simp [List.getElem?_drop]) (by rw [hdl]; exact hL.1) hL.2
  rwa [hdl] at this) _ _ _ H
 rw [htl, show n + (l.toArray.size - n) = l.toArray.size by omega] at this
 exact this
end Go.Proofs.Ytmgmdnmfalepkaa.StillIn
