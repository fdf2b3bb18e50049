/- Parts of the proof (see the row's own text): PDrawC, DrawD, EncA. -/
import Derived.Test.YtmgmdnmfalepkaaG00
import Derived.Test.YtmgmdnmfalepkaaG12
import Derived.Test.YtmgmdnmfalepkaaG11
import Derived.Test.YtmgmdnmfalepkaaG9
import Derived.Test.YtmgmdnmfalepkaaG7
import Derived.Test.YtmgmdnmfalepkaaG16
import Derived.Test.YtmgmdnmfalepkaaG10
import Derived.Deep.RegionLaw
import Derived.Deep.RegionHeld3
namespace Go.Proofs.Ytmgmdnmfalepkaa.PDraw
open Go.RowKit Go.Proofs.YtmgmdnmfalepkaaW.PrintWords Go.Proofs.YtmgmdnmfalepkaaW.PrintMore Go.Proofs.Ytmgmdnmfalepkaa.Kit Go.Proofs.Ytmgmdnmfalepkaa.PKit Go.Proofs.Ytmgmdnmfalepkaa.PSeg Go.Proofs.Ytmgmdnmfalepkaa.PEnc Go.Proofs.Ytmgmdnmfalepkaa.HelpBB Go.Proofs.Ytmgmdnmfalepkaa.HelpSeg Go.Proofs.Ytmgmdnmfalepkaa.L
set_option linter.unusedVariables false
set_option linter.unusedSimpArgs false
theorem ev_uniq {α : Type} {g : Nat → Option α} {a b : α} (h : Ev g a) (k : Ev g b) : a = b := by
 obtain ⟨K1, h1⟩ := h
 obtain ⟨K2, h2⟩ := k
 have e1 := h1 (max K1 K2) (Nat.le_max_left _ _)
 have e2 := h2 (max K1 K2) (Nat.le_max_right _ _)
 rw [e1] at e2
 exact Option.some.inj e2
theorem mem_set {l : List (List Int)} {i : Nat} {x y : List Int} (h : y ∈ l.set i x) : y ∈ l ∨ y = x := List.mem_or_eq_of_mem_set h
theorem tame_spoil {b : Int} {ls : List (List Int)} (h : Drw ls 12) (hb0 : 0 ≤ b) (hb1 : b ≤ 255) (k v : Int) (hv0 : 0 ≤ v) (hv1 : v ≤ 255) (ht : told (spoil (seg b ls) k v)) : Tame (spoil (seg b ls) k v) := by
 obtain ⟨hT, hK, hP⟩ := tame_seg h hb0 hb1
 generalize hs : seg b ls = s at hT hK hP ht ⊢
 have hsb : s.1 = b := by rw [← hs]; rfl
 have hl12 : s.2.1.length ≤ 12 := by rw [← hs]; exact h.num
 obtain ⟨t0, t1⟩ := ht
 obtain ⟨c0, c1, c2, c3, c4, c5, c6, c7, c8⟩ := hT
 have P20 : ∀ p ∈ s.2.2.2, p.length ≤ 12 ∧ ∀ x ∈ p, 0 ≤ x ∧ x ≤ 300 := hP
 unfold spoil at t0 t1 ⊢
 by_cases k0 : k = 0
 ·rw [if_pos k0] at t0 t1 ⊢
  exact ⟨t0, by show s.1 + 1 ≤ 1000; omega, c2, c3, c4, c5, c6, c7, c8⟩
 rw [if_neg k0] at t0 t1 ⊢
 by_cases k1 : k = 1
 ·rw [if_pos k1] at t0 t1 ⊢
  have : (0 : Int) ≤ -1 := t0
  omega
 rw [if_neg k1] at t0 t1 ⊢
 by_cases k2 : k = 2
 ·rw [if_pos k2] at t0 t1 ⊢
  refine ⟨c0, c1, c2, c3, ?_, ?_, t1, c7, c8⟩
  ·show (s.2.2.1 ++ [16777215]).length ≤ 300
   rw [List.length_append, List.length_singleton]; omega
  ·intro x hx
   rcases List.mem_append.1 hx with hx | hx
   ·exact c5 x hx
   ·rw [List.mem_singleton.1 hx]; omega
 rw [if_neg k2] at t0 t1 ⊢
 by_cases k3 : k = 3
 ·rw [if_pos k3] at t0 t1 ⊢
  refine ⟨c0, c1, c2, c3, c4, c5, t1, ?_, ?_⟩
  ·intro p hp
   rcases List.mem_append.1 hp with hp | hp
   ·exact c7 p hp
   ·rw [List.mem_singleton.1 hp]; simp
  ·intro p hp x hx
   rcases List.mem_append.1 hp with hp | hp
   ·exact c8 p hp x hx
   ·rw [List.mem_singleton.1 hp] at hx; rw [List.mem_singleton.1 hx]; omega
 rw [if_neg k3] at t0 t1 ⊢
 by_cases k4 : k = 4 ∧ 0 < s.2.2.1.length
 ·rw [if_pos k4] at t0 t1 ⊢
  exact ⟨c0, c1, c2, c3, by show (s.2.2.1.drop 1).length ≤ 300; rw [List.length_drop]; omega, fun x hx => c5 x (List.mem_of_mem_drop hx), t1, c7, c8⟩
 rw [if_neg k4] at t0 t1 ⊢
 by_cases k5 : k = 5 ∧ 0 < s.2.2.1.length
 ·rw [if_pos k5] at t0 t1 ⊢
  refine ⟨c0, c1, c2, c3, by show (s.2.2.1.set _ _).length ≤ 300; rw [List.length_set]; exact c4, ?_, t1, c7, c8⟩
  intro x hx
  rcases List.mem_or_eq_of_mem_set hx with hx | rfl
  ·exact c5 x hx
  ·omega
 rw [if_neg k5] at t0 t1 ⊢
 by_cases k6 : k = 6 ∧ 0 < s.2.2.2.length
 ·rw [if_pos k6] at t0 t1 ⊢
  refine ⟨c0, c1, c2, c3, c4, c5, t1, ?_, ?_⟩
  ·intro p hp
   rcases mem_set hp with hp | rfl
   ·exact c7 p hp
   ·simp
  ·intro p hp x hx
   rcases mem_set hp with hp | rfl
   ·exact c8 p hp x hx
   ·rw [List.mem_singleton.1 hx]; omega
 rw [if_neg k6] at t0 t1 ⊢
 by_cases k7 : k = 7 ∧ 0 < s.2.2.2.length
 ·rw [if_pos k7] at t0 t1 ⊢
  exact ⟨c0, c1, c2, c3, c4, c5, t1, fun p hp => c7 p (List.mem_of_mem_drop hp), fun p hp => c8 p (List.mem_of_mem_drop hp)⟩
 rw [if_neg k7] at t0 t1 ⊢
 by_cases k8 : k = 8
 ·rw [if_pos k8] at t0 t1 ⊢
  refine ⟨c0, c1, by show (s.2.1 ++ [[97, 98]]).length ≤ 20; rw [List.length_append, List.length_singleton]; omega, ?_, c4, c5, t1, c7, c8⟩
  intro l hl
  rcases List.mem_append.1 hl with hl | hl
  ·exact c3 l hl
  ·rw [List.mem_singleton.1 hl]; exact ⟨zq13, by unfold Byt; decide⟩
 rw [if_neg k8] at t0 t1 ⊢
 by_cases k9 : 0 < s.2.2.2.length
 ·rw [if_pos k9] at t0 t1 ⊢
  have hin : s.2.2.2.getD (v.toNat % s.2.2.2.length) [] ∈ s.2.2.2 := by
   have hlt := Nat.mod_lt v.toNat k9
   rw [List.getD, List.getElem?_eq_getElem hlt]
   exact List.getElem_mem hlt
  refine ⟨c0, c1, c2, c3, c4, c5, t1, ?_, ?_⟩
  ·intro p hp
   rcases mem_set hp with hp | rfl
   ·exact c7 p hp
   ·rw [List.length_append, List.length_singleton]; have := (P20 _ hin).1; omega
  ·intro p hp x hx
   rcases mem_set hp with hp | rfl
   ·exact c8 p hp x hx
   ·rcases List.mem_append.1 hx with hx | hx
    ·exact c8 _ hin x hx
    ·rw [List.mem_singleton.1 hx]; omega
 ·rw [if_neg k9] at t0 t1 ⊢
  exact ⟨c0, c1, Nat.zero_le _, (fun l hl => by cases hl), c4, c5, t1, c7, c8⟩
theorem body_bd {b : Int} {ls : List (List Int)} (h : Drw ls 12) (hb0 : 0 ≤ b) (hb1 : b ≤ 255) (hE : EncOk (seg b ls)) : (body (seg b ls)).length ≤ 100000 ∧ Byt (body (seg b ls)) ∧ (code (seg b ls)).length ≤ 100004 ∧ Byt (code (seg b ls)) := by
 obtain ⟨r, h1, h2, h3⟩ := body_ex _ (tame_seg h hb0 hb1).1
 have e := ev_uniq h1 (body_ev _ hE)
 subst e
 have hf : Byt (four (sum (body (seg b ls)))) := fun x hx => four_bytes (sum_lt _) x hx
 have hl : (four (sum (body (seg b ls)))).length = 4 := rfl
 refine ⟨h2, h3, ?_, ?_⟩
 ·unfold code; rw [List.length_append, hl]; omega
 ·unfold code; exact h3.app hf
theorem reseal_ev (l : List Int) (h : Byt l) (hl : l.length ≤ 1000000) : Ev (fun k => spec_l4reseal.f k l) (l ++ four (sum l)) := by
 have e : (four (sum l)).length = 4 := rfl
 exact Ev.congr (fun k => by simp only [spec_l4reseal.f]) (Ev.bind (f := fun k t => (if l.length + t.length < 140737488355328 then some (l ++ t) else none)) (sum_ev l h zq3) (Ev.congr (f := fun _ => some (l ++ four (sum l))) (fun k => if_pos zq3) (Ev.now _)))
def rdS (c : List Int) (i : Int) : Nat → List Int × Int
 | 0 => ([], i)
 | j + 1 => match spec_l1rd_next.f c (rdS c i j).2 with
  | some (v, q) => ((rdS c i j).1 ++ [v % 256], q)
  | none => rdS c i j
theorem rdS_ok {c : List Int} {i : Int} (h : Rdr c i) : ∀ j, Rdr c (rdS c i j).2 ∧ (rdS c i j).1.length = j ∧ Byt (rdS c i j).1 ∧ ∃ v, spec_l1rd_next.f c (rdS c i j).2 = some (v, (rdS c i (j + 1)).2) ∧ 0 ≤ v ∧ v ≤ 255 ∧ (rdS c i (j + 1)).1 = (rdS c i j).1 ++ [v % 256] := by
 intro j
 induction j with
 | zero =>
  obtain ⟨v, q, e, v0, v1, hq⟩ := next_ex h
  refine ⟨h, rfl, (fun x hx => by cases hx), v, ?_, v0, v1, ?_⟩
  ·show spec_l1rd_next.f c i = some (v, (match spec_l1rd_next.f c i with | some (v, q) => (([] : List Int) ++ [v % 256], q) | none => ([], i)).2)
   rw [e]
  ·show (match spec_l1rd_next.f c i with | some (v, q) => (([] : List Int) ++ [v % 256], q) | none => ([], i)).1 = _
   rw [e]; rfl
 | succ j ih =>
  obtain ⟨hr, hl, hb, v, e, v0, v1, e2⟩ := ih
  have hr2 : Rdr c (rdS c i (j + 1)).2 := by
   obtain ⟨v', q, e', _, _, hq⟩ := next_ex hr
   rw [e] at e'
   have := Option.some.inj e'
   rw [show (rdS c i (j + 1)).2 = q from (Prod.mk.inj this).2]
   exact hq
  obtain ⟨v', q, e', w0, w1, hq⟩ := next_ex hr2
  refine ⟨hr2, by rw [e2, List.length_append, List.length_singleton, hl], by rw [e2]; exact hb.app (fun x hx => by rw [List.mem_singleton.1 hx]; omega), v', ?_, w0, w1, ?_⟩
  ·rw [e']
   have h3 : rdS c i (j + 1 + 1) = match spec_l1rd_next.f c (rdS c i (j + 1)).2 with | some (v, q) => ((rdS c i (j + 1)).1 ++ [v % 256], q) | none => rdS c i (j + 1) := rfl
   rw [h3, e']
  ·have h3 : rdS c i (j + 1 + 1) = match spec_l1rd_next.f c (rdS c i (j + 1)).2 with | some (v, q) => ((rdS c i (j + 1)).1 ++ [v % 256], q) | none => rdS c i (j + 1) := rfl
   rw [h3, e']
theorem open_ex (code : List Int) (hb : Byt code) : ∃ c, spec_l1open.f code = some (c, 0) ∧ Rdr c 0 := by
 unfold spec_l1open.f
 by_cases h : (code.length : Int) > 600
 ·refine ⟨code.take 600, by rw [if_pos h, if_pos zq3], ⟨fun x hx => hb x (List.mem_of_mem_take hx), zq55, zq3, zq3⟩⟩
 ·refine ⟨code.take ((code.length : Int) : Int).toNat, by rw [if_neg h, if_pos zq3, if_pos zq3], ⟨fun x hx => hb x (List.mem_of_mem_take hx), zq55, zq3, zq3⟩⟩
theorem drw_small {b : Int} {ls : List (List Int)} (h : Drw ls 12) : Bytes ls ∧ smallBB ls ∧ totalB ls ≤ 240 := by
 have hn := h.num
 have ht : totalB ls ≤ 240 := by
  have key : ∀ L : List (List Int), (∀ l ∈ L, l.length ≤ 20) → totalB L ≤ 20 * L.length := by
   intro L
   induction L with
   | nil => intro _; decide
   | cons l r ih =>
    intro hL
    have h1 := hL l (List.mem_cons_self ..)
    have h2 := ih (fun x hx => hL x (List.mem_cons_of_mem _ hx))
    simp only [totalB, List.length_cons]
    omega
  have h1 := key ls h.len
  omega
 exact ⟨fun l hl x hx => (h.fine l hl x hx).1, by show ls.length + totalB ls ≤ 1048576; omega, ht⟩
theorem seg_ev {c : List Int} {i : Int} (h : Rdr c i) : ∃ (b : Int) (ls : List (List Int)) (j : Int), 0 ≤ b ∧ b ≤ 255 ∧ Drw ls 12 ∧ 1 ≤ ls.length ∧ Rdr c j ∧ Ev (fun k => spec_l4drawSegment.f k c i) (b, ls, keys ls, (keys ls).map (post b ls ls.length), j) := by
 obtain ⟨ls, i1, hE, hD, hn, hr⟩ := lines_ex h 12 zq13 zq13
 have e12 : ((12 : Nat) : Int) = 12 := rfl
 rw [e12] at hE
 obtain ⟨v, i2, e, v0, v1, hr2⟩ := next_ex hr
 obtain ⟨hB, hS, _⟩ := drw_small (b := v) hD
 by_cases hz : Int.tmod v 3 = 0
 ·refine ⟨0, ls, i2, zq3, zq3, hD, hn, hr2, ?_⟩
  refine Ev.congr (fun k => rfl) (Ev.bind (f := fun (k : Nat) (bt779 : List (List Int) × Int) => (spec_l1rd_next.f c bt779.2).bind fun (bt783 : Int × Int) => (if (Int.tmod bt783.1 3) = 0 then ((spec_l4build.f k 0 bt779.1).bind fun bt785 => (some (bt785.1, bt785.2.1, bt785.2.2.1, bt785.2.2.2, bt783.2))) else ((spec_l4build.f k bt783.1 bt779.1).bind fun bt795 => (some (bt795.1, bt795.2.1, bt795.2.2.1, bt795.2.2.2, bt783.2))))) hE (Ev.congr (f := fun k => (spec_l4build.f k 0 ls).bind fun bt785 => (some (bt785.1, bt785.2.1, bt785.2.2.1, bt785.2.2.2, i2))) (fun k => ?_) (Ev.bind (build_ev 0 ls hB hS zq3 zq3) (Ev.now (0, ls, keys ls, (keys ls).map (post 0 ls ls.length), i2)))))
  simp only [e, Option.bind_some]
  rw [if_pos hz]
 ·refine ⟨v, ls, i2, v0, v1, hD, hn, hr2, ?_⟩
  refine Ev.congr (fun k => rfl) (Ev.bind (f := fun (k : Nat) (bt779 : List (List Int) × Int) => (spec_l1rd_next.f c bt779.2).bind fun (bt783 : Int × Int) => (if (Int.tmod bt783.1 3) = 0 then ((spec_l4build.f k 0 bt779.1).bind fun bt785 => (some (bt785.1, bt785.2.1, bt785.2.2.1, bt785.2.2.2, bt783.2))) else ((spec_l4build.f k bt783.1 bt779.1).bind fun bt795 => (some (bt795.1, bt795.2.1, bt795.2.2.1, bt795.2.2.2, bt783.2))))) hE (Ev.congr (f := fun k => (spec_l4build.f k v ls).bind fun bt785 => (some (bt785.1, bt785.2.1, bt785.2.2.1, bt785.2.2.2, i2))) (fun k => ?_) (Ev.bind (build_ev v ls hB hS v0 zq3) (Ev.now (v, ls, keys ls, (keys ls).map (post v ls ls.length), i2)))))
  simp only [e, Option.bind_some]
  rw [if_neg hz]
end Go.Proofs.Ytmgmdnmfalepkaa.PDraw

namespace Go.Proofs.Ytmgmdnmfalepkaa.Draw
open Go.RowKit Go.Proofs.YtmgmdnmfalepkaaW.PrintWords Go.Proofs.YtmgmdnmfalepkaaW.PrintMore Go.Proofs.Ytmgmdnmfalepkaa.Kit Go.Proofs.Ytmgmdnmfalepkaa.PKit Go.Proofs.Ytmgmdnmfalepkaa.Ty Go.Proofs.Ytmgmdnmfalepkaa.PSeg Go.Proofs.Ytmgmdnmfalepkaa.PEnc Go.Proofs.Ytmgmdnmfalepkaa.PDec Go.Proofs.Ytmgmdnmfalepkaa.PSta Go.Proofs.Ytmgmdnmfalepkaa.HelpBB Go.Proofs.Ytmgmdnmfalepkaa.HelpSeg
open Go.Proofs.Ytmgmdnmfalepkaa.Build hiding code ans
open Go.Proofs.Ytmgmdnmfalepkaa.Sto Go.Proofs.Ytmgmdnmfalepkaa.PDraw Go.Proofs.Ytmgmdnmfalepkaa.SegS
open Go.Proofs.Ytmgmdnmfalepkaa.L (IsS168)
set_option linter.unusedVariables false
set_option linter.unusedSimpArgs false
def flip (x : Int) : Int := Go.bits .xor .u8 x 1
theorem infoU : (Try.prog.info? 5).map (fun i => (i.zero, i.size, i.bytes)) = some (some (.int .u8 0), 1, 1) := by kernel_rfl
def drawn (k v w : Int) (r0 bd cd r1 : List Int) : List Int :=
 if k = 0 then r0
 else if k = 1 then r1
 else if k = 2 then [84, 71, 128, 0, 1, 0, 0] ++ four (sum [84, 71, 128, 0, 1, 0, 0])
 else if k = 3 then [84, 71, v % 3, w % 3, 0, 0] ++ four (sum [84, 71, v % 3, w % 3, 0, 0])
 else if k = 4 then cd.set ((v * 256 + w).toNat % bd.length) (flip (cd.getD ((v * 256 + w).toNat % bd.length) 0))
 else if k = 5 then bd.set ((v * 256 + w).toNat % bd.length) (flip (bd.getD ((v * 256 + w).toNat % bd.length) 0)) ++ four (sum (bd.set ((v * 256 + w).toNat % bd.length) (flip (bd.getD ((v * 256 + w).toNat % bd.length) 0))))
 else if k = 6 then bd.set ((v * 256 + w).toNat % bd.length) w ++ four (sum (bd.set ((v * 256 + w).toNat % bd.length) w))
 else if k = 7 then cd.take ((v * 256 + w).toNat % bd.length)
 else if k = 8 then cd ++ [0]
 else if k = 9 then (bd ++ [0]) ++ four (sum (bd ++ [0]))
 else if k = 10 then cd.set (cd.length - 1 - v.toNat % 4) ((cd.getD (cd.length - 1 - v.toNat % 4) 0 + 1) % 256)
 else cd
theorem flips : (List.range 256).all (fun n => decide (0 ≤ flip (n : Int)) && decide (flip (n : Int) ≤ 255)) = true := by kernel_rfl
theorem flip_byte {x : Int} (h : 0 ≤ x ∧ x ≤ 255) : 0 ≤ flip x ∧ flip x ≤ 255 := by
 obtain ⟨n, rfl⟩ := Int.eq_ofNat_of_zero_le h.1
 have h2 := List.all_eq_true.1 flips n (List.mem_range.2 zq3)
 rw [Bool.and_eq_true, decide_eq_true_eq, decide_eq_true_eq] at h2
 exact h2
theorem four_len (n : Nat) : (four n).length = 4 := rfl
theorem set_byte {l : List Int} {i : Nat} {y : Int} (h : Byt l) (hy : 0 ≤ y ∧ y ≤ 255) : Byt (l.set i y) := fun z hz => (List.mem_or_eq_of_mem_set hz).elim (h z) (fun e => by rw [e]; exact hy)
theorem seal_byte {l : List Int} (h : Byt l) : Byt (l ++ four (sum l)) := h.app (fun y hy => four_bytes (sum_lt _) y hy)
set_option maxHeartbeats 4000000 in
theorem drawn_ok (k v w : Int) (r0 bd cd r1 : List Int) (w0 : 0 ≤ w) (w1 : w ≤ 255) (h0 : Byt r0) (l0 : r0.length ≤ 100) (hb : Byt bd) (lb : bd.length ≤ 100000) (hc : Byt cd) (lc : cd.length ≤ 100004) (h1 : Byt r1) (l1 : r1.length ≤ 100004) (bn : 1 ≤ bd.length) (cn : cd.length = bd.length + 4) : Byt (drawn k v w r0 bd cd r1) ∧ (drawn k v w r0 bd cd r1).length ≤ 1048576 := by
 have gb : ∀ i, i < bd.length → 0 ≤ flip (bd.getD i 0) ∧ flip (bd.getD i 0) ≤ 255 := fun i hi => flip_byte (hb _ (getD_mem _ 0 _ hi))
 have gc : ∀ i, i < cd.length → 0 ≤ flip (cd.getD i 0) ∧ flip (cd.getD i 0) ≤ 255 := fun i hi => flip_byte (hc _ (getD_mem _ 0 _ hi))
 have hm : (v * 256 + w).toNat % bd.length < bd.length := Nat.mod_lt _ zq3
 unfold drawn
 split
 ·exact ⟨h0, zq3⟩
 split
 ·exact ⟨h1, zq3⟩
 split
 ·exact ⟨seal_byte zq48, by rw [List.length_append, four_len]; simp⟩
 split
 ·exact ⟨seal_byte zq48, by rw [List.length_append, four_len]; simp⟩
 split
 ·exact ⟨set_byte hc (gc _ zq3), by rw [List.length_set]; omega⟩
 split
 ·exact ⟨seal_byte (set_byte hb (gb _ hm)), by rw [List.length_append, four_len, List.length_set]; omega⟩
 split
 ·exact ⟨seal_byte (set_byte hb ⟨w0, w1⟩), by rw [List.length_append, four_len, List.length_set]; omega⟩
 split
 ·exact ⟨fun y hy => hc y (List.mem_of_mem_take hy), zq55⟩
 split
 ·exact ⟨hc.app (by intro y hy; rw [List.mem_singleton.1 hy]; omega), zq28⟩
 split
 ·exact ⟨seal_byte (hb.app (by intro y hy; rw [List.mem_singleton.1 hy]; omega)), by rw [List.length_append, four_len, List.length_append, List.length_singleton]; omega⟩
 split
 ·exact ⟨set_byte hc zq3, by rw [List.length_set]; omega⟩
 ·exact ⟨hc, zq3⟩
theorem R_fin {w' : World} {base : Nat} {ok : Nat → Prop} {v : Value} {r : List Int} (h : Kd.R (Kd.int .u8) 5 w' base ok v r) : ∃ (A' : Option Addr) (c' : Nat), v = .slice A' r.length c' ∧ r.length ≤ c' ∧ Kd.C (Kd.int .u8) w' A' r.length r := by
 obtain ⟨A', c', rfl⟩ := Kd.R_slice h
 exact ⟨A', c', rfl, (Kd.R_reads' h).2.1, (Kd.R_reads' h).2.2⟩
theorem cell_u8 {w : World} {base g c : Nat} {ok : Nat → Prop} {xs : List Int} (h : Kd.R (Kd.int .u8) 5 w base ok (.slice (some ⟨g, 0, none⟩) xs.length c) xs) (i : Nat) (hi : i < xs.length) : w.cell? ⟨g, i, none⟩ = some (.int .u8 (xs.getD i 0)) ∧ w.frozen? ⟨g, i, none⟩ = false ∧ base ≤ g ∧ ∀ y : Int, Kd.R (Kd.int .u8) 5 (w.setCell ⟨g, i, none⟩ (.int .u8 y)) base ok (.slice (some ⟨g, 0, none⟩) xs.length c) (xs.set i y) := by
 obtain ⟨hn, hle, hC⟩ := Kd.R_reads' h
 obtain ⟨ad, c0, e1, hc0, hK⟩ := get_one (d := Kd.int .u8) rfl hC 0 i zq3
 injection e1 with e1
 subst e1
 have hadd : (⟨g, 0, none⟩ : Addr).add i = ⟨g, 0 + i, none⟩ := by unfold Addr.add; split <;> simp_all
 rw [hadd, Nat.zero_add] at hc0
 obtain ⟨cur, hb, _⟩ := row_cur h zq3
 have hK' : [c0] = [.int .u8 (xs.getD i 0)] := hK
 injection hK' with hK'
 refine ⟨by rw [hc0, hK'], blk_frozen hb i, Kd.R_base h g rfl, fun y => ?_⟩
 exact (Kd.R_put h ((i : Nat) : Int) y).1
theorem lit_new (w : World) (vs : List Value) (xs : List Int) (hvs : vs = xs.map (fun n => Value.int .u8 n)) (base : Nat) (hb : base ≤ w.heap.size) (hm : xs.length ≤ 100) : Kd.R (Kd.int .u8) 5 (w.alloc (.cells vs.toArray 5 (0, 0))) base (fun q => w.heap.size ≤ q) (.slice (some ⟨w.heap.size, 0, none⟩) xs.length xs.length) xs := by
 subst hvs
 refine Kd.R_of_own (enc := fun n => Value.int .u8 n) (h1 := fun _ => rfl) (xs := xs) ⟨by show (xs.map _).length = _; rw [List.length_map]; exact (Nat.mul_one _).symm, .inr ⟨w.heap.size, xs.length, (xs.map (fun n => Value.int .u8 n)).toArray, rfl, hb, heap_alloc_new _ _, Nat.le_refl _, ?_, by rw [List.size_toArray, List.length_map]; exact (Nat.mul_one _).symm, ?_⟩⟩ (fun k hk => Nat.le_of_eq (by simpa [Value.ownBlock] using hk))
 ·simp only [maxLen]; omega
 ·rw [List.toList_toArray]; exact List.take_of_length_le (by rw [List.length_map]; exact Nat.le_of_eq (Nat.mul_one _).symm)
theorem enc_calls (k : Nat) (b : Int) (ls : List (List Int)) (r : List Int) (B1 B2 B3 : Option Addr) (d1 d2 d3 : Nat) (W : World) (h : L.spec_l4encode.f k b ls (keys ls) ((keys ls).map (post b ls ls.length)) = some r) (q1 : ls.length ≤ d1 ∧ Kd.C kB W B1 ls.length ls) (q2 : (keys ls).length ≤ d2 ∧ Kd.C (Kd.int .i64) W B2 (keys ls).length (keys ls)) (q3 : (keys ls).length ≤ d3 ∧ Kd.C HelpII.kI W B3 (keys ls).length ((keys ls).map (post b ls ls.length))) :
  Calls Try.prog 102 #[.agg #[.int .i64 b, .slice B1 ls.length d1, .slice B2 (keys ls).length d2, .slice B3 (keys ls).length d3]] W fun e w' => ∃ (A : Option Addr) (c : Nat), e = .returned (.slice A r.length c) ∧ Kd.R (Kd.int .u8) 5 w' W.heap.size (fun _ => True) (.slice A r.length c) r ∧ Below W.heap.size W w' := by
 have e : ((keys ls).map (post b ls ls.length)).length = (keys ls).length := List.length_map _
 have hh := L.spec_l4encode.calls k b B1 d1 ls B2 d2 (keys ls) B3 d3 ((keys ls).map (post b ls ls.length)) r W q1.2 q1.1 q2.2 q2.1 (by rw [e]; exact q3.2) (by rw [e]; exact q3.1) h
 rw [e] at hh
 refine hh.mono ?_
 rintro e w' ⟨v0, rfl, hR, hB⟩
 obtain ⟨A, c, rfl⟩ := Kd.R_slice hR
 exact ⟨A, c, rfl, hR, hB⟩
theorem body_calls (k : Nat) (b : Int) (ls : List (List Int)) (r : List Int) (B1 B2 B3 : Option Addr) (d1 d2 d3 : Nat) (W : World) (h : L.spec_l4body.f k b ls (keys ls) ((keys ls).map (post b ls ls.length)) = some r) (q1 : ls.length ≤ d1 ∧ Kd.C kB W B1 ls.length ls) (q2 : (keys ls).length ≤ d2 ∧ Kd.C (Kd.int .i64) W B2 (keys ls).length (keys ls)) (q3 : (keys ls).length ≤ d3 ∧ Kd.C HelpII.kI W B3 (keys ls).length ((keys ls).map (post b ls ls.length))) :
  Calls Try.prog 120 #[.agg #[.int .i64 b, .slice B1 ls.length d1, .slice B2 (keys ls).length d2, .slice B3 (keys ls).length d3]] W fun e w' => ∃ (A : Option Addr) (c : Nat), e = .returned (.slice A r.length c) ∧ Kd.R (Kd.int .u8) 5 w' W.heap.size (fun _ => True) (.slice A r.length c) r ∧ Below W.heap.size W w' := by
 have e : ((keys ls).map (post b ls ls.length)).length = (keys ls).length := List.length_map _
 have hh := L.spec_l4body.calls k b B1 d1 ls B2 d2 (keys ls) B3 d3 ((keys ls).map (post b ls ls.length)) r W q1.2 q1.1 q2.2 q2.1 (by rw [e]; exact q3.2) (by rw [e]; exact q3.1) h
 rw [e] at hh
 refine hh.mono ?_
 rintro e w' ⟨v0, rfl, hR, hB⟩
 obtain ⟨A, c, rfl⟩ := Kd.R_slice hR
 exact ⟨A, c, rfl, hR, hB⟩
theorem kUn {w : World} {s : SegT} {v0 : Value} {B1 B2 B3 : Option Addr} {n1 n2 n3 d1 d2 d3 : Nat} (h : kSeg.K w s [v0, .slice B1 n1 d1, .slice B2 n2 d2, .slice B3 n3 d3]) : (n1 ≤ d1 ∧ Kd.C kB w B1 n1 s.2.1) ∧ (n2 ≤ d2 ∧ Kd.C (Kd.int .i64) w B2 n2 s.2.2.1) ∧ (n3 ≤ d3 ∧ Kd.C HelpII.kI w B3 n3 s.2.2.2) := by
 obtain ⟨l0, r0, e0, g0, l1, r1, e1, ⟨A1, c1, f1, q1, t1⟩, l2, r2, e2, ⟨A2, c2, f2, q2, t2⟩, ⟨A3, c3, f3, q3, t3⟩⟩ := h
 have g0' : l0 = [.int .i64 s.1] := g0
 subst g0' f1 f2 f3 e2 e1
 simp only [List.cons_append, List.nil_append, List.cons.injEq, Value.slice.injEq, and_true] at e0
 obtain ⟨_, ⟨rfl, rfl, rfl⟩, ⟨rfl, rfl, rfl⟩, rfl, rfl, rfl⟩ := e0
 exact ⟨⟨q1, t1⟩, ⟨q2, t2⟩, ⟨q3, t3⟩⟩
theorem R_ownok {w : World} {base : Nat} {ok : Nat → Prop} {v : Value} {xs : List Int} (h : Kd.R (Kd.int .i64) 3 w base ok v xs) : Kd.R (Kd.int .i64) 3 w base (fun q => some q = v.ownBlock ∧ ok q) v xs := by
 obtain ⟨h0, inner, ho, hr⟩ := h
 exact ⟨fun k hk => ⟨hk.symm, h0 k hk⟩, inner, ho, hr⟩
theorem apart {w : World} {k : Nat} {l1 l2 : List TypeId} (hd : ∀ t ∈ l1, t ∉ l2) (h1 : ∃ q, q ∈ l1 ∧ ∃ cells, w.heap[k]? = some (.cells cells q (0, 0))) (h2 : ∃ q, q ∈ l2 ∧ ∃ cells, w.heap[k]? = some (.cells cells q (0, 0))) : False := by
 obtain ⟨q, hq, c, hc⟩ := h1
 obtain ⟨p, hp, d, hd'⟩ := h2
 rw [hc] at hd'
 have e : q = p := by injection hd' with e; injection e
 exact hd q hq (e ▸ hp)
theorem seal_calls (l r : List Int) (hr : r = l ++ four (sum l)) (hl : Byt l) (hn : l.length ≤ 1000000) (P0 : Nat → Prop) (v : Value) (w0 w : World) (hB : Below w0.heap.size w0 w) (ho : Kd.R (Kd.int .u8) 5 w w0.heap.size P0 v l) :
  Calls Try.prog 117 #[v] w fun e w' => ∃ (A : Option Addr) (c : Nat), e = .returned (.slice A r.length c) ∧ r.length ≤ c ∧ Kd.C (Kd.int .u8) w' A r.length r ∧ Below w0.heap.size w0 w' := by
 subst hr
 obtain ⟨k, hk⟩ := (reseal_ev l hl hn).rounds
 refine (L.spec_l4reseal.calls k P0 v l (l ++ four (sum l)) w0 w hB ho hk).mono ?_
 rintro e w' ⟨y, rfl, hY, hB', _⟩
 obtain ⟨A, c, rfl, h1, h2⟩ := R_fin hY
 exact ⟨A, c, rfl, h1, h2, hB'⟩
set_option maxRecDepth 100000 in
set_option maxHeartbeats 4000000 in
theorem draw_ex (code_ : List Int) (hb : Byt code_) (hl : code_.length ≤ 1048576) : ∃ r : List Int, Byt r ∧ r.length ≤ 1048576 ∧ ∀ (A : Option Addr) (cA : Nat) (w : World), Kd.C (Kd.int .u8) w A code_.length code_ → code_.length ≤ cA →
  Calls Try.prog 58 #[.slice A code_.length cA] w fun e w' => ∃ (A' : Option Addr) (c' : Nat), e = .returned (.slice A' r.length c') ∧ r.length ≤ c' ∧ Kd.C (Kd.int .u8) w' A' r.length r ∧ Below w.heap.size w w' := by
 obtain ⟨c, hop, hr0⟩ := open_ex code_ hb
 obtain ⟨u, i1, hE1, u0, u1, hr1⟩ := next_ex hr0
 obtain ⟨n, i2, hE2, n0, n1, hr2⟩ := next_ex hr1
 obtain ⟨b, ls, i3, b0, b1, hD, hn, hr3, hEv⟩ := seg_ev hr1
 obtain ⟨v, i4, hE4, v0, v1, hr4⟩ := next_ex hr3
 obtain ⟨x, i5, hE5, x0, x1, hr5⟩ := next_ex hr4
 obtain ⟨k', v', k0', k9', v0', v9', hSP⟩ := spoil_ex c i5 hr5
 obtain ⟨kk, hkk⟩ := hEv.rounds
 obtain ⟨hfit, hBy, _⟩ := fits_drw hD hn b0 b1
 have hEn := encOk_seg hfit hBy
 obtain ⟨hbl, hbB, hcl, hcB⟩ := body_bd hD b0 b1 hEn
 obtain ⟨kb, hkb⟩ := (body_ev (seg b ls) hEn).rounds
 obtain ⟨ke, hke⟩ := (encode_ev (seg b ls) hEn hBy).rounds
 obtain ⟨hTm, hK240, hP12⟩ := tame_seg hD b0 b1
 have hbn : 1 ≤ (body (seg b ls)).length := by unfold body head; simp only [List.length_append, List.length_cons, List.length_nil]; omega
 have hcn_ : (code (seg b ls)).length = (body (seg b ls)).length + 4 := by unfold code; rw [List.length_append]; rfl
 obtain ⟨r1, hr1e, hr1B, hr1l⟩ : ∃ r1 : List Int, ((told (spoil (seg b ls) k' v') → ∃ bt, Ev (fun k => L.spec_l4body.f k (spoil (seg b ls) k' v').1 (spoil (seg b ls) k' v').2.1 (spoil (seg b ls) k' v').2.2.1 (spoil (seg b ls) k' v').2.2.2) bt ∧ Byt bt ∧ bt.length ≤ 100000 ∧ r1 = bt ++ four (sum bt)) ∧ (¬ told (spoil (seg b ls) k' v') → r1 = (code (seg b ls)).take 5)) ∧ Byt r1 ∧ r1.length ≤ 100004 := by
  by_cases ht : told (spoil (seg b ls) k' v')
  ·obtain ⟨bt, h1, h2, h3⟩ := body_ex _ (tame_spoil hD b0 b1 k' v' v0' v9' ht)
   exact ⟨bt ++ four (sum bt), ⟨fun _ => ⟨bt, h1, h3, h2, rfl⟩, fun h => absurd ht h⟩, h3.app (fun y hy => four_bytes (sum_lt _) y hy), by rw [List.length_append, show (four (sum bt)).length = 4 from rfl]; omega⟩
  ·exact ⟨(code (seg b ls)).take 5, ⟨fun h => absurd h ht, fun _ => rfl⟩, fun y hy => hcB y (List.mem_of_mem_take hy), zq55⟩
 obtain ⟨hrl, hrB⟩ := (rdS_ok hr2 (n % 30).toNat).2
 have hrB := hrB.1
 obtain ⟨RV, hRV⟩ : ∃ RV, RV = drawn (u % 16) v x ((rdS c i2 (n % 30).toNat).1 ++ four (sum (rdS c i2 (n % 30).toNat).1)) (body (seg b ls)) (code (seg b ls)) r1 := ⟨_, rfl⟩
 obtain ⟨hV1, hV2⟩ : Byt RV ∧ RV.length ≤ 1048576 := by rw [hRV]; exact drawn_ok _ _ _ _ _ _ _ x0 x1 (hrB.app (fun y hy => four_bytes (sum_lt _) y hy)) (by rw [List.length_append, hrl, show (four (sum (rdS c i2 (n % 30).toNat).1)).length = 4 from rfl]; omega) hbB hbl hcB hcl hr1B hr1l hbn hcn_
 refine ⟨RV, hV1, hV2, ?_⟩
 intro A cA w hC hcA
 have HRV := zA hRV
 have HOP := zA hop
 have HE1 := zA hE1
 have HE2 := zA hE2
 have HKK := zA hkk
 have HKB := zA hkb
 have HKE := zA hke
 have HE4 := zA hE4
 have HE5 := zA hE5
 have HSP := zA hSP
 have HR1 := zA hr1e
 have HC := zA hC
 have HCA := zA hcA
 have HTM := zA hTm
 have HK24 := zA hK240
 have HP12 := zA hP12
 have HBB := zA hbB
 have HCB := zA hcB
 have HL12 := zA hD.num
 have HRD := zA hr2
 have m1 := hC.2.1
 have HCN := zA hcn_
 clear hcn_ hop hE1 hE2 hEv hkk hkb hke hE4 hE5 hSP hr1e hC hcA hD hr0 hr1 hr2 hr3 hr4 hr5 hb hRV hV1 hV2 hTm hK240 hP12 hbB hcB hr1B hr1l hfit hBy hEn hrl hrB k0' k9' v0' v9'
 go_enter Try.func58, Try.ntmps58
 go_wp2_with fail
 go_at_call 115
 refine (L.spec_l1open.calls A cA code_ c 0 w _ (Below.refl _ _) HC.out HCA.out HOP.out).mono ?_
 rintro e w1 ⟨g, rfl, hI1, hB1, _⟩
 have HI1 := zA hI1
 have HB1 := zA hB1
 clear hI1 hB1
 go_wp2_with fail
 go_at_call 116
 refine (L.spec_l1rd_next.calls g c 0 u i1 w _ HI1.out HB1.out HE1.out).mono ?_
 rintro e w2 ⟨rfl, hI2, hB2, hK2⟩
 have HI2 := zA hI2
 have HB2 := zA hB2
 clear hI2 hB2 hK2 HI1
 by_cases z0 : u % 16 = 0
 case pos =>
  have HX := zA (show RV = (rdS c i2 (n % 30).toNat).1 ++ four (sum (rdS c i2 (n % 30).toNat).1) from HRV.out.trans (by unfold drawn; rw [if_pos z0]))
  have hN0 : 0 ≤ n % 30 := Int.emod_nonneg _ zq13
  have hN1 : n % 30 < 30 := Int.emod_lt_of_pos _ zq13
  go_wp2_with fail
  go_at_call 116
  refine (L.spec_l1rd_next.calls g c i1 n i2 w _ HI2.out HB2.out HE2.out).mono ?_
  rintro e w3 ⟨rfl, hI3, hB3, _⟩
  have HI3 := zA hI3
  have HB3 := zA hB3
  clear hI3 hB3
  go_wp2_with fail
  go_loopg [5, 7] (n % 30).toNat (fun gg s5 s7 wr => ∃ i : Nat, i ≤ (n % 30).toNat ∧ (n % 30).toNat - i ≤ gg ∧ s7 = .int .i64 (i : Int) ∧ Aside0 (Kd.R (Kd.int .u8) 5 wr w.heap.size (fun q => q ≠ g) s5 (rdS c i2 i).1) ∧ Aside0 (IsS168 w wr g c (rdS c i2 i).2) ∧ Aside0 (Below w.heap.size w wr))
  case atStart => exact ⟨0, zq3, zq3, rfl, ⟨Kd.R_nil _ _ _ _ _⟩, HI3, HB3⟩
  case round =>
   obtain ⟨i, hi, hg, rfl, HR, HI, HB⟩ := hrel
   obtain ⟨hvr, hvl, hvb, vv, hve, vv0, vv1, hvn⟩ := rdS_ok HRD.out i
   obtain ⟨Ao, co, eo⟩ := Kd.R_slice HR.out
   subst eo
   rename World => wr
   by_cases hlt : i < (n % 30).toNat
   ·have hltz : (i : Int) < n % 30 := by omega
    have HVE := zA hve
    have HVN := zA hvn
    have HVL := zA hvl
    clear hve hvn hvb hvr hvl
    go_wp2_with fail
    go_at_call 116
    refine (L.spec_l1rd_next.calls g c (rdS c i2 i).2 vv (rdS c i2 (i + 1)).2 w _ HI.out HB.out HVE.out).mono ?_
    rintro e w4 ⟨rfl, hI4, hB4, hK4⟩
    have HR4 := zA (Kd.R_keep HR.out hK4 (fun q hq => hq))
    have HI4 := zA hI4
    have HB4 := zA hB4
    clear hI4 hB4 hK4 HI HB HR
    go_wp2_with (first | (at_builtin; refine Kd.R_append (Kd.int .u8) (w0 := w) w.heap.size rfl (.tmp 33) (.tmp 36) 33 5 (.int .u8 0) 1 rfl Try.underlying33 infoU rfl zq13 zq13 (.slice Ao (rdS c i2 i).1.length co) (rdS c i2 i).1 _ [.int .u8 _] (fun q => q ≠ g) (fun _ => False) rfl rfl rfl (fun _ h => h.elim) ?aF ?aO ?aB ?aS ?aL ?_; (case aF => exact fun q hq => HI4.out.fresh q (Nat.le_trans (below_size zq7) hq)); (case aO => exact Kd.R_below HR4.out zq7); (case aB => exact grew_trans HB4.out zq7); (case aS => exact (grew_trans HB4.out zq7).size); (case aL => have := HVL.out; omega); intro v9 w9 hR9 hB9 hg9 hat9; have HR9 := zA hR9; have HB9 := zA hB9; have HI9 := zA (HI4.out.grown (grown_of_below zq7 none) zq14 |>.grown hg9 (HI4.out.own_ne HR4.out zq13)); clear hR9 hB9 hg9 hat9))
    go_roundg ((n % 30).toNat - (i + 1))
    case measure => omega
    case rel =>
     exact ⟨i + 1, zq3, zq3, by go_num, ⟨by rw [HVN.out, show vv % 256 = vv from by omega]; exact HR9.out⟩, HI9, HB9⟩
   ·have hltz : ¬ (i : Int) < n % 30 := by omega
    obtain rfl : i = (n % 30).toNat := by omega
    have HVL := zA hvl
    have HVB := zA hvb
    clear hve hvn hvb hvr hvl
    go_wp2_with fail
    go_at_call 117
    refine (seal_calls (rdS c i2 (n % 30).toNat).1 RV HX.out HVB.out (by rw [HVL.out]; omega) _ _ w _ HB.out HR.out).mono ?_
    rintro e w9 ⟨A9, c9, rfl, h9a, h9b, hB9⟩
    have H9A := zA h9a
    have H9B := zA h9b
    have HB9 := zA hB9
    clear h9a h9b hB9
    go_wp2_with fail
    go_ret
    exact ⟨A9, c9, rfl, H9A.out, H9B.out, HB9.out⟩
 case neg =>
  go_wp2_with fail
  go_at_call 118
  refine (L.spec_l4drawSegment.calls kk g c i1 b ls (keys ls) ((keys ls).map (post b ls ls.length)) i3 w _ HI2.out HB2.out HKK.out).mono ?_
  rintro e w3 ⟨y1, y2, y3, rfl, hS1, hR2, hS3, hI3, hB3, hK3⟩
  obtain ⟨B1, d1, rfl⟩ := Kd.S_slice hS1
  obtain ⟨B2, d2, rfl⟩ := Kd.R_slice hR2
  obtain ⟨B3, d3, rfl⟩ := Kd.S_slice hS3
  rw [show ((keys ls).map (post b ls ls.length)).length = (keys ls).length from List.length_map _] at hS3
  have HI3 := zA hI3
  have HB3 := zA hB3
  have HS1 := zA hS1
  have HR2 := zA hR2
  have HS3 := zA hS3
  have HLG := zA (show g < w2.heap.size from HI2.out.lt)
  have HW23 := zA (show w2.heap.size ≤ w3.heap.size from hK3.1)
  clear hI3 hB3 hS1 hR2 hS3 hK3
  go_wp2_with fail
  go_at_call 116
  refine (L.spec_l1rd_next.calls g c i3 v i4 w _ (HI3.out.below (below_alloc (Below.refl _ _) _)) (below_alloc HB3.out _) HE4.out).mono ?_
  rintro e w5 ⟨rfl, hI5, hB5, hK5⟩
  have HI5 := zA hI5
  have HB5 := zA hB5
  have HK5 := zA hK5
  clear hI5 hB5 hK5
  go_wp2_with fail
  go_at_call 116
  refine (L.spec_l1rd_next.calls g c i4 x i5 w _ HI5.out HB5.out HE5.out).mono ?_
  rintro e w6 ⟨rfl, hI6, hB6, hK6⟩
  have HI6 := zA hI6
  have HB6 := zA hB6
  have HNG := zA (show w3.heap.size ≠ g from fun e => by have h1 := HLG.out; have h2 := HI3.out.lt; omega)
  have BS := zA (hK6.blk (HK5.out.blk (blk_new w3 (.cells #[.int .i64 b, .slice B1 ls.length d1, .slice B2 (keys ls).length d2, .slice B3 (keys ls).length d3] 50 (0, 0))) HNG.out zq14) HNG.out zq14)
  have S16 := zA (Kd.S_keep (Kd.S_keep (Kd.S_below (Kd.S_bound HS1.out) (below_alloc (Below.refl _ _) _)) HK5.out (fun q hq => by have h1 := HLG.out; have h2 := hq.2.1; omega)) hK6 (fun q hq => by have h1 := HLG.out; have h2 := hq.2.1; omega))
  have R26 := zA (Kd.R_keep (Kd.R_keep (Kd.R_below (Kd.R_bound HR2.out) (below_alloc (Below.refl _ _) _)) HK5.out (fun q hq => by have h1 := HLG.out; have h2 := hq.2.1; omega)) hK6 (fun q hq => by have h1 := HLG.out; have h2 := hq.2.1; omega))
  have S36 := zA (Kd.S_keep (Kd.S_keep (Kd.S_below (Kd.S_bound HS3.out) (below_alloc (Below.refl _ _) _)) HK5.out (fun q hq => by have h1 := HLG.out; have h2 := hq.2.1; omega)) hK6 (fun q hq => by have h1 := HLG.out; have h2 := hq.2.1; omega))
  have HSZ := zA (show w2.heap.size ≤ w3.heap.size ∧ w3.heap.size < w6.heap.size ∧ w.heap.size ≤ w2.heap.size from ⟨HW23.out, blk_lt BS.out, HB2.out.size⟩)
  have QQ3 := zA (show (keys ls).length ≤ d3 ∧ Kd.C HelpII.kI w6 B3 (keys ls).length ((keys ls).map (post b ls ls.length)) from by have h := (Kd.S_reads' S36.out).2; rw [List.length_map] at h; exact h)
  clear hI6 hB6 hK6 HI5 HK5 HB5 HS1 HR2 HS3 HI3
  obtain ⟨⟨q0, qf0⟩, ⟨q1, qf1⟩, ⟨q2, qf2⟩, ⟨q3, qf3⟩⟩ := cells4 BS.out
  by_cases z1 : u % 16 = 1
  case pos =>
   have HX := zA (show RV = r1 from HRV.out.trans (by unfold drawn; rw [if_neg z0, if_pos z1]))
   obtain ⟨⟨sb, sl, sk, sq⟩, hSQ⟩ : ∃ q : SegT, q = spoil (seg b ls) k' v' := ⟨_, rfl⟩
   have hr := HR1.out
   rw [← hSQ] at hr
   have hsp := HSP.out b ls (keys ls) ((keys ls).map (post b ls ls.length)) g w w6 B1 d1 B2 d2 B3 d3
   rw [show spoil (b, ls, keys ls, (keys ls).map (post b ls ls.length)) k' v' = (sb, sl, sk, sq) from hSQ.symm, List.length_map] at hsp
   have hsp := hsp _ _ _ HI6.out HB6.out (Kd.S_lower S16.out HSZ.out.2.2) (R_ownok (Kd.R_lower R26.out HSZ.out.2.2)) (Kd.S_lower S36.out HSZ.out.2.2) (fun q hq => ⟨by have h1 := HSZ.out; have h2 := hq.2.2.1; omega, by have h1 := HLG.out; have h2 := hq.2.1; omega, fun h => apart zq13 hq.2.2.2 h.2.2.2.2, fun h => apart zq13 hq.2.2.2 h.2.2.2⟩) (fun q hq => ⟨by have h1 := HSZ.out; have h2 := hq.2.2.2.1; omega, by have h1 := HLG.out; have h2 := hq.2.2.1; omega, fun h => h.1 hq.1⟩) (fun q hq => ⟨by have h1 := HSZ.out; have h2 := hq.2.2.1; omega, by have h1 := HLG.out; have h2 := hq.2.1; omega⟩) b0 zq3 (by have := HL12.out; omega) (by have h : (keys ls).length ≤ 240 := HK24.out; omega) rfl (fun p hp => by have := (HP12.out p hp).1; omega)
   have HS2 := zA hsp
   have HR2' := zA hr
   clear hsp hr hSQ
   go_wp2_with fail
   go_at_call 119
   refine HS2.out.mono ?_
   rintro e w7 ⟨C1, e1, C2, e2, C3, e3, rfl, hT, hNT, hB7⟩
   have HT := zA hT
   have HNT := zA hNT
   have HB7 := zA hB7
   clear hT hNT hB7
   by_cases ht : told (sb, sl, sk, sq)
   case pos =>
    have t0 : 0 ≤ sb := ht.1
    have t1 : sk.length ≤ sq.length := ht.2
    have t1z : (sk.length : Int) ≤ (sq.length : Int) := by omega
    have HKU := zA (kUn (HT.out ht))
    obtain ⟨bt, hbt, hbB, hbl, hr1⟩ := HR2'.out.1 ht
    obtain ⟨kt, hkt⟩ := hbt.rounds
    have HKT := zA hkt
    have HX2 := zA (show RV = bt ++ four (sum bt) from HX.out.trans hr1)
    have HBT := zA hbB
    clear hkt hbt hr1 hbB ht
    go_wp2_with fail
    go_at_call 120
    refine (L.spec_l4body.calls kt sb C1 e1 sl C2 e2 sk C3 e3 sq bt _ (Kd.C_below HKU.out.1.2 zq7) HKU.out.1.1 (Kd.C_below HKU.out.2.1.2 zq7) HKU.out.2.1.1 (Kd.C_below HKU.out.2.2.2 zq7) HKU.out.2.2.1 HKT.out).mono ?_
    rintro e w8 ⟨v8, rfl, hR8, hB8⟩
    have HB8 := zA (grew_trans (below_alloc HB7.out _) hB8)
    have HR8 := zA (Kd.R_lower hR8 (show w.heap.size ≤ _ from (below_alloc HB7.out _).size))
    clear hR8 hB8
    go_wp2_with fail
    go_at_call 117
    refine (seal_calls bt RV HX2.out HBT.out zq3 (fun _ => True) _ w _ HB8.out HR8.out).mono ?_
    rintro e w9 ⟨A9, c9, rfl, h9a, h9b, hB9⟩
    have H9A := zA h9a
    have H9B := zA h9b
    have HB9 := zA hB9
    clear h9a h9b hB9
    go_wp2_with fail
    go_ret
    exact ⟨A9, c9, rfl, H9A.out, H9B.out, HB9.out⟩
   obtain ⟨hk7, hkp7⟩ := HNT.out ht
   have HKU := zA (kUn hk7)
   have HX2 := zA (show RV = (code (seg b ls)).take 5 from HX.out.trans (HR2'.out.2 ht))
   have BS7 := zA (blk_kept BS.out hkp7 (fun h => h.elim HNG.out (fun h => Nat.lt_irrefl _ h.2.2.2.1)))
   clear hk7 hkp7 q0 qf0 q1 qf1 q2 qf2 q3 qf3
   have BS8 := zA (blk_alloc BS7.out (.cells #[.int .i64 sb, .slice C1 sl.length e1, .slice C2 sk.length e2, .slice C3 sq.length e3] 50 (0, 0)))
   obtain ⟨⟨q0, qf0⟩, ⟨q1, qf1⟩, ⟨q2, qf2⟩, ⟨q3, qf3⟩⟩ := cells4 BS8.out
   have go : Calls Try.prog 102 #[.agg #[.int .i64 b, .slice B1 ls.length d1, .slice B2 (keys ls).length d2, .slice B3 (keys ls).length d3]] (w7.alloc (.cells #[.int .i64 sb, .slice C1 sl.length e1, .slice C2 sk.length e2, .slice C3 sq.length e3] 50 (0, 0))) _ := enc_calls ke b ls (code (seg b ls)) B1 B2 B3 d1 d2 d3 _ HKE.out ⟨HKU.out.1.1, Kd.C_below HKU.out.1.2 (below_alloc (Below.refl _ _) _)⟩ ⟨HKU.out.2.1.1, Kd.C_below HKU.out.2.1.2 (below_alloc (Below.refl _ _) _)⟩ ⟨HKU.out.2.2.1, Kd.C_below HKU.out.2.2.2 (below_alloc (Below.refl _ _) _)⟩
   have HGO := zA go
   clear go
   by_cases t0 : 0 ≤ sb
   case pos =>
    have t1z : ¬ (sk.length : Int) ≤ (sq.length : Int) := fun h => ht ⟨t0, by show sk.length ≤ sq.length; omega⟩
    go_wp2_with fail
    go_at_call 102
    refine HGO.out.mono ?_
    rintro e w9 ⟨A9, c9, rfl, hR9, hB9⟩
    have hc9 : (5 : Int) ≤ (c9 : Int) := by have h1 := (Kd.R_reads' hR9).2.1; have h2 := HCN.out; omega
    have HR9 := zA hR9
    have HB9 := zA (grew_trans (below_alloc HB7.out _) hB9)
    clear hR9 hB9
    obtain ⟨g9, hA9⟩ := row_blk HR9.out (by have := HCN.out; omega)
    subst hA9
    go_wp2_with fail
    go_ret
    have hlen : RV.length = 5 := by rw [HX2.out, List.length_take]; have h2 := HCN.out; omega
    exact ⟨some ⟨g9, 0, none⟩, c9, by rw [hlen]; rfl, by rw [hlen]; omega, zq40, HB9.out⟩
   case neg =>
    go_wp2_with fail
    go_at_call 102
    refine HGO.out.mono ?_
    rintro e w9 ⟨A9, c9, rfl, hR9, hB9⟩
    have hc9 : (5 : Int) ≤ (c9 : Int) := by have h1 := (Kd.R_reads' hR9).2.1; have h2 := HCN.out; omega
    have HR9 := zA hR9
    have HB9 := zA (grew_trans (below_alloc HB7.out _) hB9)
    clear hR9 hB9
    obtain ⟨g9, hA9⟩ := row_blk HR9.out (by have := HCN.out; omega)
    subst hA9
    go_wp2_with fail
    go_ret
    have hlen : RV.length = 5 := by rw [HX2.out, List.length_take]; have h2 := HCN.out; omega
    exact ⟨some ⟨g9, 0, none⟩, c9, by rw [hlen]; rfl, by rw [hlen]; omega, zq40, HB9.out⟩
  by_cases z2 : u % 16 = 2
  case pos =>
   have HX := zA (show RV = [84, 71, 128, 0, 1, 0, 0] ++ four (sum [84, 71, 128, 0, 1, 0, 0]) from HRV.out.trans (by unfold drawn; rw [if_neg z0, if_neg z1, if_pos z2]))
   go_wp2_with fail
   go_at_call 117
   refine (seal_calls [84, 71, 128, 0, 1, 0, 0] RV HX.out zq48 zq14 _ _ w _ (below_alloc HB6.out _) (lit_new w6 [.int .u8 (84), .int .u8 (71), .int .u8 (128), .int .u8 (0), .int .u8 (1), .int .u8 (0), .int .u8 (0)] [84, 71, 128, 0, 1, 0, 0] rfl w.heap.size HB6.out.size zq14)).mono ?_
   rintro e w9 ⟨A9, c9, rfl, h9a, h9b, hB9⟩
   have H9A := zA h9a
   have H9B := zA h9b
   have HB9 := zA hB9
   clear h9a h9b hB9
   go_wp2_with fail
   go_ret
   exact ⟨A9, c9, rfl, H9A.out, H9B.out, HB9.out⟩
  by_cases z3 : u % 16 = 3
  case pos =>
   have HX := zA (show RV = [84, 71, v % 3, x % 3, 0, 0] ++ four (sum [84, 71, v % 3, x % 3, 0, 0]) from HRV.out.trans (by unfold drawn; rw [if_neg z0, if_neg z1, if_neg z2, if_pos z3]))
   have hv3 : Int.tmod v 3 = v % 3 := Int.tmod_eq_emod_of_nonneg v0
   have hx3 : Int.tmod x 3 = x % 3 := Int.tmod_eq_emod_of_nonneg x0
   go_wp2_with fail
   go_at_call 117
   refine (seal_calls [84, 71, v % 3, x % 3, 0, 0] RV HX.out zq48 zq14 _ _ w _ (below_alloc HB6.out _) (lit_new w6 [.int .u8 (84), .int .u8 (71), .int .u8 (v % 3), .int .u8 (x % 3), .int .u8 (0), .int .u8 (0)] [84, 71, v % 3, x % 3, 0, 0] rfl w.heap.size HB6.out.size zq14)).mono ?_
   rintro e w9 ⟨A9, c9, rfl, h9a, h9b, hB9⟩
   have H9A := zA h9a
   have H9B := zA h9b
   have HB9 := zA hB9
   clear h9a h9b hB9
   go_wp2_with fail
   go_ret
   exact ⟨A9, c9, rfl, H9A.out, H9B.out, HB9.out⟩
  go_wp2_with fail
  go_at_call 102
  refine (enc_calls ke b ls (code (seg b ls)) B1 B2 B3 d1 d2 d3 w6 HKE.out (Kd.S_reads' S16.out).2 (Kd.R_reads' R26.out).2 QQ3.out).mono ?_
  rintro e w7 ⟨A7, c7, rfl, hR7, hB7⟩
  have HR7 := zA hR7
  have HB7 := zA hB7
  have BS7 := zA (blk_below BS.out hB7)
  clear hR7 hB7
  obtain ⟨⟨y0, yf0⟩, ⟨y1, yf1⟩, ⟨y2, yf2⟩, ⟨y3, yf3⟩⟩ := cells4 BS7.out
  go_wp2_with fail
  go_at_call 120
  refine (body_calls kb b ls (body (seg b ls)) B1 B2 B3 d1 d2 d3 w7 HKB.out ⟨(Kd.S_reads' S16.out).2.1, Kd.C_below (Kd.S_reads' S16.out).2.2 HB7.out⟩ ⟨(Kd.R_reads' R26.out).2.1, Kd.C_below (Kd.R_reads' R26.out).2.2 HB7.out⟩ ⟨QQ3.out.1, Kd.C_below QQ3.out.2 HB7.out⟩).mono ?_
  rintro e w8 ⟨A8, c8, rfl, hR8, hB8⟩
  have HR8 := zA hR8
  have HC8 := zA (Kd.R_below HR7.out hB8)
  have HB8 := zA (grew_trans (grew_trans HB6.out HB7.out) hB8)
  have HB78 := zA hB8
  have HS8 := zA (show w.heap.size ≤ w6.heap.size ∧ w6.heap.size ≤ w7.heap.size ∧ w7.heap.size ≤ w8.heap.size from ⟨HB6.out.size, HB7.out.size, hB8.size⟩)
  clear hR8 hB8 q0 qf0 q1 qf1 q2 qf2 q3 qf3 y0 yf0 y1 yf1 y2 yf2 y3 yf3
  have hwr1 : IntKind.i64.wrap (v * 256) = v * 256 := by rw [IntKind.wrap_i64]; omega
  have hwr2 : IntKind.i64.wrap (v * 256 + x) = v * 256 + x := by rw [IntKind.wrap_i64]; omega
  have hbz : ¬ (((body (seg b ls)).length : Int) = 0) := by omega
  have htm : Int.tmod (v * 256 + x) ((body (seg b ls)).length : Int) = (v * 256 + x) % ((body (seg b ls)).length : Int) := Int.tmod_eq_emod_of_nonneg zq3
  have hm0 : 0 ≤ (v * 256 + x) % ((body (seg b ls)).length : Int) := Int.emod_nonneg _ zq3
  have hm1 : (v * 256 + x) % ((body (seg b ls)).length : Int) < ((body (seg b ls)).length : Int) := Int.emod_lt_of_pos _ zq3
  have hmn : ((v * 256 + x) % ((body (seg b ls)).length : Int)).toNat = (v * 256 + x).toNat % (body (seg b ls)).length := modN _ _ zq3
  obtain ⟨g7, hA7⟩ := row_blk HC8.out (by have := HCN.out; omega)
  subst hA7
  obtain ⟨g8, hA8⟩ := row_blk HR8.out zq3
  subst hA8
  have hat := zA (show ((v * 256 + x).toNat % (body (seg b ls)).length) < (body (seg b ls)).length from Nat.mod_lt _ zq3)
  by_cases z4 : u % 16 = 4
  case pos =>
   have HX := zA (show RV = (code (seg b ls)).set ((v * 256 + x).toNat % (body (seg b ls)).length) (flip ((code (seg b ls)).getD ((v * 256 + x).toNat % (body (seg b ls)).length) 0)) from HRV.out.trans (by unfold drawn; rw [if_neg z0, if_neg z1, if_neg z2, if_neg z3, if_pos z4]))
   have hlt4 : (v * 256 + x) % ((body (seg b ls)).length : Int) < ((code (seg b ls)).length : Int) := by have := HCN.out; omega
   obtain ⟨hce, hfr, hge, hput⟩ := cell_u8 HC8.out ((v * 256 + x).toNat % (body (seg b ls)).length) (by have := hat.out; have := HCN.out; omega)
   have HGE := zA hge
   have HPUT := zA hput
   clear hge hput
   go_wp2_with fail
   obtain ⟨A9, c9, e9, h9a, h9b⟩ := R_fin (HPUT.out (flip ((code (seg b ls)).getD ((v * 256 + x).toNat % (body (seg b ls)).length) 0)))
   go_ret
   exact ⟨A9, c9, by rw [HX.out]; exact congrArg Ending.returned e9, by rw [HX.out]; exact h9a, by rw [HX.out]; exact h9b, below_set HB8.out (by have h1 := HGE.out; have h2 := HS8.out; omega)⟩
  by_cases z5 : u % 16 = 5
  case pos =>
   have HX := zA (show RV = (body (seg b ls)).set ((v * 256 + x).toNat % (body (seg b ls)).length) (flip ((body (seg b ls)).getD ((v * 256 + x).toNat % (body (seg b ls)).length) 0)) ++ four (sum ((body (seg b ls)).set ((v * 256 + x).toNat % (body (seg b ls)).length) (flip ((body (seg b ls)).getD ((v * 256 + x).toNat % (body (seg b ls)).length) 0)))) from HRV.out.trans (by unfold drawn; rw [if_neg z0, if_neg z1, if_neg z2, if_neg z3, if_neg z4, if_pos z5]))
   obtain ⟨hce, hfr, hge, hput⟩ := cell_u8 HR8.out ((v * 256 + x).toNat % (body (seg b ls)).length) hat.out
   have HGE := zA hge
   have HPUT := zA hput
   clear hge hput
   go_wp2_with fail
   go_at_call 117
   refine (seal_calls ((body (seg b ls)).set ((v * 256 + x).toNat % (body (seg b ls)).length) (flip ((body (seg b ls)).getD ((v * 256 + x).toNat % (body (seg b ls)).length) 0))) RV HX.out (fun y hy => (List.mem_or_eq_of_mem_set hy).elim (HBB.out y) (fun e => by rw [e]; exact flip_byte (HBB.out _ (getD_mem _ 0 _ hat.out)))) (by rw [List.length_set]; omega) (fun _ => True) _ w _ (below_set HB8.out (by have h1 := HGE.out; have h2 := HS8.out; omega)) (Kd.R_lower (HPUT.out _) (by have h2 := HS8.out; omega))).mono ?_
   rintro e w9 ⟨A9, c9, rfl, h9a, h9b, hB9⟩
   have H9A := zA h9a
   have H9B := zA h9b
   have HB9 := zA hB9
   clear h9a h9b hB9
   go_wp2_with fail
   go_ret
   exact ⟨A9, c9, rfl, H9A.out, H9B.out, HB9.out⟩
  by_cases z6 : u % 16 = 6
  case pos =>
   have HX := zA (show RV = (body (seg b ls)).set ((v * 256 + x).toNat % (body (seg b ls)).length) x ++ four (sum ((body (seg b ls)).set ((v * 256 + x).toNat % (body (seg b ls)).length) x)) from HRV.out.trans (by unfold drawn; rw [if_neg z0, if_neg z1, if_neg z2, if_neg z3, if_neg z4, if_neg z5, if_pos z6]))
   obtain ⟨hce, hfr, hge, hput⟩ := cell_u8 HR8.out ((v * 256 + x).toNat % (body (seg b ls)).length) hat.out
   have HGE := zA hge
   have HPUT := zA hput
   clear hge hput
   go_wp2_with fail
   go_at_call 117
   refine (seal_calls ((body (seg b ls)).set ((v * 256 + x).toNat % (body (seg b ls)).length) x) RV HX.out (fun y hy => (List.mem_or_eq_of_mem_set hy).elim (HBB.out y) (fun e => by rw [e]; exact ⟨x0, x1⟩)) (by rw [List.length_set]; omega) (fun _ => True) _ w _ (below_set HB8.out (by have h1 := HGE.out; have h2 := HS8.out; omega)) (Kd.R_lower (HPUT.out _) (by have h2 := HS8.out; omega))).mono ?_
   rintro e w9 ⟨A9, c9, rfl, h9a, h9b, hB9⟩
   have H9A := zA h9a
   have H9B := zA h9b
   have HB9 := zA hB9
   clear h9a h9b hB9
   go_wp2_with fail
   go_ret
   exact ⟨A9, c9, rfl, H9A.out, H9B.out, HB9.out⟩
  by_cases z7 : u % 16 = 7
  case pos =>
   have HX := zA (show RV = (code (seg b ls)).take ((v * 256 + x).toNat % (body (seg b ls)).length) from HRV.out.trans (by unfold drawn; rw [if_neg z0, if_neg z1, if_neg z2, if_neg z3, if_neg z4, if_neg z5, if_neg z6, if_pos z7]))
   have hlt7 : (v * 256 + x) % ((body (seg b ls)).length : Int) ≤ (c7 : Int) := by have := HCN.out; have h : (code (seg b ls)).length ≤ c7 := (Kd.R_reads' HC8.out).2.1; omega
   go_wp2_with fail
   go_ret
   have hlen : RV.length = ((v * 256 + x).toNat % (body (seg b ls)).length) := by rw [HX.out, List.length_take]; have h1 := hat.out; have h2 := HCN.out; omega
   exact ⟨some ⟨g7, 0, none⟩, c7, by rw [hlen]; rfl, by rw [hlen]; have h1 := hat.out; have h2 := HCN.out; have h : (code (seg b ls)).length ≤ c7 := (Kd.R_reads' HC8.out).2.1; omega, by rw [HX.out]; exact Kd.C_take (m := ((v * 256 + x).toNat % (body (seg b ls)).length)) (show Kd.C (Kd.int .u8) w8 (some ⟨g7, 0, none⟩) (code (seg b ls)).length (code (seg b ls)) from (Kd.R_reads' HC8.out).2.2) (by have h1 := hat.out; have h2 := HCN.out; omega), HB8.out⟩
  by_cases z8 : u % 16 = 8
  case pos =>
   have HX := zA (show RV = (code (seg b ls)) ++ [0] from HRV.out.trans (by unfold drawn; rw [if_neg z0, if_neg z1, if_neg z2, if_neg z3, if_neg z4, if_neg z5, if_neg z6, if_neg z7, if_pos z8]))
   go_wp2_with (first | (at_builtin; refine Kd.R_append (Kd.int .u8) (w0 := w) w.heap.size rfl (.tmp 133) (.tmp 134) 33 5 (.int .u8 0) 1 rfl Try.underlying33 infoU rfl zq13 zq13 (.slice (some ⟨g7, 0, none⟩) (code (seg b ls)).length c7) (code (seg b ls)) _ [.int .u8 0] (fun _ => True) (fun _ => False) rfl rfl rfl (fun _ h => h.elim) (fun _ _ => trivial) ?aO ?aB ?aS ?aL ?_; (case aO => exact Kd.R_below (Kd.R_lower HC8.out (by have h2 := HS8.out; omega)) zq7); (case aB => exact grew_trans HB8.out zq7); (case aS => exact (grew_trans HB8.out zq7).size); (case aL => have := HCN.out; omega); intro v9 w9 hR9 hB9 hg9 hat9; obtain ⟨A9, c9, rfl⟩ := Kd.R_slice hR9; rw [show ((code (seg b ls)) ++ ([0] : List Int)).length = (code (seg b ls)).length + 1 from by rw [List.length_append, List.length_singleton]] at hR9; have HR9 := zA hR9; have HB9 := zA hB9; clear hR9 hB9 hg9 hat9))
   go_ret
   have hlen : RV.length = (code (seg b ls)).length + 1 := by rw [HX.out, List.length_append, List.length_singleton]
   exact ⟨A9, c9, by rw [hlen]; rfl, by rw [hlen]; exact (Kd.R_reads' HR9.out).2.1, by rw [HX.out]; exact (Kd.R_reads' HR9.out).2.2, HB9.out⟩
  by_cases z9 : u % 16 = 9
  case pos =>
   have HX := zA (show RV = ((body (seg b ls)) ++ [0]) ++ four (sum ((body (seg b ls)) ++ [0])) from HRV.out.trans (by unfold drawn; rw [if_neg z0, if_neg z1, if_neg z2, if_neg z3, if_neg z4, if_neg z5, if_neg z6, if_neg z7, if_neg z8, if_pos z9]))
   go_wp2_with (first | (at_builtin; refine Kd.R_append (Kd.int .u8) (w0 := w) w.heap.size rfl (.tmp 138) (.tmp 139) 33 5 (.int .u8 0) 1 rfl Try.underlying33 infoU rfl zq13 zq13 (.slice (some ⟨g8, 0, none⟩) (body (seg b ls)).length c8) (body (seg b ls)) _ [.int .u8 0] (fun _ => True) (fun _ => False) rfl rfl rfl (fun _ h => h.elim) (fun _ _ => trivial) ?aO ?aB ?aS ?aL ?_; (case aO => exact Kd.R_below (Kd.R_lower HR8.out (by have h2 := HS8.out; omega)) zq7); (case aB => exact grew_trans HB8.out zq7); (case aS => exact (grew_trans HB8.out zq7).size); (case aL => have := HCN.out; omega); intro v9 w9 hR9 hB9 hg9 hat9; obtain ⟨A9, c9, rfl⟩ := Kd.R_slice hR9; rw [show ((body (seg b ls)) ++ ([0] : List Int)).length = (body (seg b ls)).length + 1 from by rw [List.length_append, List.length_singleton]] at hR9; have HR9 := zA hR9; have HB9 := zA hB9; clear hR9 hB9 hg9 hat9))
   go_at_call 117
   refine (seal_calls ((body (seg b ls)) ++ [0]) RV HX.out (HBB.out.app (by intro y hy; rw [List.mem_singleton.1 hy]; omega)) zq28 (fun _ => True) _ w _ HB9.out HR9.out).mono ?_
   rintro e wX ⟨AX, cX, rfl, h9a, h9b, hBX⟩
   have H9A := zA h9a
   have H9B := zA h9b
   have HBX := zA hBX
   clear h9a h9b hBX
   go_wp2_with fail
   go_ret
   exact ⟨AX, cX, rfl, H9A.out, H9B.out, HBX.out⟩
  by_cases z10 : u % 16 = 10
  case pos =>
   have HX := zA (show RV = (code (seg b ls)).set ((code (seg b ls)).length - 1 - v.toNat % 4) (((code (seg b ls)).getD ((code (seg b ls)).length - 1 - v.toNat % 4) 0 + 1) % 256) from HRV.out.trans (by unfold drawn; rw [if_neg z0, if_neg z1, if_neg z2, if_neg z3, if_neg z4, if_neg z5, if_neg z6, if_neg z7, if_neg z8, if_neg z9, if_pos z10]))
   have hv4 : Int.tmod v 4 = v % 4 := Int.tmod_eq_emod_of_nonneg v0
   have h10a : v % 4 ≤ ((code (seg b ls)).length : Int) - 1 := by have := HCN.out; omega
   have h10b : ((code (seg b ls)).length : Int) - 1 - v % 4 < ((code (seg b ls)).length : Int) := by omega
   have h10c : (((code (seg b ls)).length : Int) - 1 - v % 4).toNat = ((code (seg b ls)).length - 1 - v.toNat % 4) := by have := HCN.out; omega
   obtain ⟨hce, hfr, hge, hput⟩ := cell_u8 HC8.out ((code (seg b ls)).length - 1 - v.toNat % 4) (by have := HCN.out; omega)
   have HGE := zA hge
   have HPUT := zA hput
   clear hge hput
   go_wp2_with fail
   obtain ⟨A9, c9, e9, h9a, h9b⟩ := R_fin (HPUT.out (((code (seg b ls)).getD ((code (seg b ls)).length - 1 - v.toNat % 4) 0 + 1) % 256))
   go_ret
   exact ⟨A9, c9, by rw [HX.out]; exact congrArg Ending.returned e9, by rw [HX.out]; exact h9a, by rw [HX.out]; exact h9b, below_set HB8.out (by have h1 := HGE.out; have h2 := HS8.out; omega)⟩
  have HX := zA (show RV = (code (seg b ls)) from HRV.out.trans (by unfold drawn; rw [if_neg z0, if_neg z1, if_neg z2, if_neg z3, if_neg z4, if_neg z5, if_neg z6, if_neg z7, if_neg z8, if_neg z9, if_neg z10]))
  go_wp2_with fail
  obtain ⟨A9, c9, e9, h9a, h9b⟩ := R_fin HC8.out
  go_ret
  exact ⟨A9, c9, by rw [HX.out]; exact congrArg Ending.returned e9, by rw [HX.out]; exact h9a, by rw [HX.out]; exact h9b, HB8.out⟩
end Go.Proofs.Ytmgmdnmfalepkaa.Draw

namespace Go.Proofs.Ytmgmdnmfalepkaa.EncA
open Go.RowKit Go.Proofs.YtmgmdnmfalepkaaW.PrintWords Go.Proofs.YtmgmdnmfalepkaaW.PrintMore Go.Proofs.Ytmgmdnmfalepkaa.Kit Go.Proofs.Ytmgmdnmfalepkaa.PKit Go.Proofs.Ytmgmdnmfalepkaa.Ty Go.Proofs.Ytmgmdnmfalepkaa.PEnc Go.Proofs.Ytmgmdnmfalepkaa.Build
set_option linter.unusedVariables false
def Enc (w0 w : World) (ge : Nat) (No : Nat → Prop) (o : List Int) : Prop :=
 w0.heap.size ≤ ge ∧ Below w0.heap.size w0 w ∧ ∃ A c, w.heap[ge]? = some (.cells #[.slice A o.length c] 154 (0, 0)) ∧ Kd.R (Kd.int .u8) 5 w w0.heap.size (fun k => k ≠ ge ∧ ¬ No k) (.slice A o.length c) o
theorem or128 (n : Nat) : Go.bits .or .u8 ((n : Int) % 256) 128 = ((n % 128 + 128 : Nat) : Int) := by
 have key : ∀ m : Fin 256, Go.bits .or .u8 ((m.val : Nat) : Int) 128 = ((m.val % 128 + 128 : Nat) : Int) := by decide +kernel
 have := key ⟨n % 256, Nat.mod_lt _ zq13⟩
 have e : ((n % 256 : Nat) : Int) = (n : Int) % 256 := by omega
 simp only [e] at this
 rw [this]
 have : n % 256 % 128 = n % 128 := by omega
 rw [this]
theorem getD_get' (l : List Int) (i : Nat) (h : i < l.length) : l.getD i 0 = l[i] := by simp [List.getD, List.getElem?_eq_getElem h]
def nums (ns : List Nat) : List Int := ns.flatMap varint
theorem nums_take (ns : List Nat) (i : Nat) (h : i < ns.length) : nums (ns.take (i + 1)) = nums (ns.take i) ++ varint (ns.getD i 0) := by
 unfold nums
 rw [List.take_succ_eq_append_getElem h, List.flatMap_append]
 congr 1
 simp [List.getD, List.getElem?_eq_getElem h]
theorem nums_len (ns : List Nat) (hn : ∀ n ∈ ns, n < 4611686018427387904) : (nums ns).length ≤ 9 * ns.length := by
 induction ns with
 | nil => simp [nums]
 | cons n r ih =>
  have h1 := varint_len10 (hn n zq14)
  have h2 := ih (fun m hm => hn m (List.mem_cons_of_mem _ hm))
  have e : nums (n :: r) = varint n ++ nums r := rfl
  rw [e, List.length_append, List.length_cons]
  omega
set_option maxRecDepth 100000 in
set_option maxHeartbeats 4000000 in
theorem numbers_calls (ge gL : Nat) (o : List Int) (ns : List Nat) (w0 w : World) (hE : Enc w0 w ge (fun k => k = gL) o) (hL : w.heap[gL]? = some (.cells (ns.map fun (n : Nat) => Value.int .i64 (n : Int)).toArray 3 (0, 0))) (hge : ge ≠ gL)
  (hn : ∀ n ∈ ns, n < 4611686018427387904) (hl : ns.length ≤ 1000) (ho : o.length ≤ 1099511627776) :
  Calls Try.prog 144 #[.pointer (some ⟨ge, 0, none⟩), .slice (some ⟨gL, 0, none⟩) ns.length ns.length] w fun e w' => e = .returned (.tuple #[]) ∧ Enc w0 w' ge (fun k => k = gL) (o ++ nums ns) := by
 have HE := zA hE
 have HL := zA hL
 have HN := zA hn
 clear hE hL hn
 go_enter Try.func144, Try.ntmps144
 go_wp2
 go_loopg [8] ns.length (fun gg s8 wr => ∃ i : Nat, i ≤ ns.length ∧ ns.length - i ≤ gg ∧ s8 = .int .i64 i ∧ Aside0 (Enc w0 wr ge (fun k => k = gL) (o ++ nums (ns.take i))) ∧ Aside0 (wr.heap[gL]? = some (.cells (ns.map fun (n : Nat) => Value.int .i64 (n : Int)).toArray 3 (0, 0))))
 case atStart => exact ⟨0, zq3, zq3, rfl, ⟨by simpa [nums] using HE.out⟩, HL⟩
 case round =>
  obtain ⟨i, hi, hg, rfl, HE1, HL1⟩ := hrel
  by_cases hlt : i < ns.length
  ·have hltz : (i : Int) < (ns.length : Int) := by omega
   have hcell : wr.cell? ⟨gL, i, none⟩ = some (.int .i64 ((ns.getD i 0 : Nat) : Int)) := (blk_cell HL1.out i).trans (by simp [List.getD, List.getElem?_eq_getElem hlt])
   have hnb := HN.out (ns.getD i 0) (by simp [List.getD, List.getElem?_eq_getElem hlt])
   have HT := zA (nums_take ns i hlt)
   have HNL := zA (nums_len (ns.take i) (fun n hn => HN.out n (List.mem_of_mem_take hn)))
   have HVL := zA (varint_len10 hnb)
   generalize hx : ns.getD i 0 = n at hcell hnb HT HVL
   clear hx
   rename World => wo
   go_wp2
   go_loopg [5] n (fun gg s5 wr => ∃ (m : Nat) (p : List Int), m ≤ gg ∧ m ≤ n ∧ s5 = .int .i64 m ∧ Aside0 (p ++ varint m = o ++ nums (ns.take i) ++ varint n) ∧ Aside0 (Enc w0 wr ge (fun k => k = gL) p) ∧ Aside0 (wr.heap[gL]? = some (.cells (ns.map fun (n : Nat) => Value.int .i64 (n : Int)).toArray 3 (0, 0))))
   case atStart => exact ⟨n, o ++ nums (ns.take i), Nat.le_refl _, Nat.le_refl _, rfl, ⟨rfl⟩, HE1, HL1⟩
   case round =>
    rename World => wi
    obtain ⟨m, p, hm, hmn, rfl, HP, HE2, HL2⟩ := hrel
    have hpl : p.length ≤ 1099511700000 := by
     have h1 := congrArg List.length HP.out
     have h2 := HNL.out
     have h3 := HVL.out
     simp only [List.length_append] at h1
     rw [List.length_take] at h2
     omega
    obtain ⟨hge0, hB, Ao, co, hb, hR⟩ := HE2.out
    have HB0 := zA hB
    have HBK := zA hb
    have HR := zA hR
    have HFR := zA (show ∀ k, wi.heap.size ≤ k → k ≠ ge ∧ ¬ k = gL from fun k hk => ⟨fun e => by have := blk_lt HBK.out; omega, fun e => by have := blk_lt HL2.out; omega⟩)
    have hcg : wi.cell? ⟨ge, 0, none⟩ = some (.slice Ao p.length co) := (blk_cell hb 0).trans rfl
    have hfg := blk_frozen hb 0
    clear hB hb hR
    by_cases h128 : 128 ≤ m
    ·have hz : (128 : Int) ≤ (m : Int) := by omega
     go_wp2_with (first | (at_builtin; refine Kd.R_append (Kd.int .u8) (w0 := w0) w0.heap.size rfl (.tmp 18) (.tmp 22) 33 5 (.int .u8 0) 1 rfl Try.underlying33 infoB rfl zq13 zq13 (.slice Ao p.length co) p _ [.int .u8 _] (fun k => k ≠ ge ∧ ¬ k = gL) (fun _ => False) rfl rfl rfl (fun _ h => h.elim) HFR.out HR.out HB0.out HB0.out.size zq3 ?_; rintro v1 w1 hR1 hB1 hg1 hat1; obtain ⟨A1, c1, rfl⟩ := Kd.R_slice hR1; have hb1 := blk_grown HBK.out hg1 (fun e => (HR.out.1 ge e.symm).1 rfl); have hL1 := blk_grown HL2.out hg1 (fun e => (HR.out.1 gL e.symm).2 rfl); have hcg1 : w1.cell? ⟨ge, 0, none⟩ = some (.slice Ao p.length co) := (blk_cell hb1 0).trans rfl; have hfg1 := blk_frozen hb1 0))
     rw [or128 m] at hR1
     go_roundg (m / 128)
     case measure => omega
     case rel =>
      refine ⟨m / 128, p ++ [((m % 128 + 128 : Nat) : Int)], Nat.le_refl _, zq3, ?_, ⟨?_⟩, ⟨hge0, below_set hB1 hge0, A1, c1, ?_, Kd.R_far hR1 (fun k hk => hk.1) _⟩, ⟨blk_far hL1 (fun e => hge e.symm) _⟩⟩
      ·show Value.int .i64 ((m : Int) / 128) = _
       first | rfl | (congr 1; omega)
      ·rw [← HP.out, varint_ge (n := m) zq3, List.append_assoc]
       rfl
      ·refine blk_put (cs := #[.slice Ao p.length co]) hb1 0 _ ?_
       simp only [List.length_append, List.length_singleton]
       rfl
    ·have hz : ¬ (128 : Int) ≤ (m : Int) := by omega
     go_wp2_with (first | (at_builtin; refine Kd.R_append (Kd.int .u8) (w0 := w0) w0.heap.size rfl (.tmp 32) (.tmp 35) 33 5 (.int .u8 0) 1 rfl Try.underlying33 infoB rfl zq13 zq13 (.slice Ao p.length co) p _ [.int .u8 _] (fun k => k ≠ ge ∧ ¬ k = gL) (fun _ => False) rfl rfl rfl (fun _ h => h.elim) HFR.out HR.out HB0.out HB0.out.size zq3 ?_; rintro v1 w1 hR1 hB1 hg1 hat1; obtain ⟨A1, c1, rfl⟩ := Kd.R_slice hR1; have hb1 := blk_grown HBK.out hg1 (fun e => (HR.out.1 ge e.symm).1 rfl); have hL1 := blk_grown HL2.out hg1 (fun e => (HR.out.1 gL e.symm).2 rfl); have hcg1 : w1.cell? ⟨ge, 0, none⟩ = some (.slice Ao p.length co) := (blk_cell hb1 0).trans rfl; have hfg1 := blk_frozen hb1 0))
     go_roundg (ns.length - (i + 1))
     case measure => omega
     case rel =>
      have hpn : o ++ nums (ns.take (i + 1)) = p ++ [(m : Int)] := by rw [HT.out, ← List.append_assoc, ← HP.out, varint_lt zq3]
      refine ⟨i + 1, zq3, zq3, by go_num, ⟨?_⟩, ⟨blk_far hL1 (fun e => hge e.symm) _⟩⟩
      rw [hpn]
      refine ⟨hge0, below_set hB1 hge0, A1, c1, ?_, Kd.R_far hR1 (fun k hk => hk.1) _⟩
      refine blk_put (cs := #[.slice Ao p.length co]) hb1 0 _ ?_
      simp only [List.length_append, List.length_singleton]
      rfl
  ·have hltz : ¬ (i : Int) < (ns.length : Int) := by omega
   obtain rfl : i = ns.length := by omega
   go_wp2
   go_end0
   have h1 := HE1.out
   rw [List.take_length] at h1
   exact ⟨rfl, h1⟩
theorem Enc.mono {w0 w : World} {ge : Nat} {No No' : Nat → Prop} {o : List Int} (h : Enc w0 w ge No o) (hn : ∀ k, No' k → No k) : Enc w0 w ge No' o := by
 obtain ⟨h1, h2, A, c, h3, h4⟩ := h
 exact ⟨h1, h2, A, c, h3, Kd.R_mono h4 (fun k hk => ⟨hk.1, fun h => hk.2 (hn k h)⟩)⟩
theorem Enc.list {w0 w : World} {ge : Nat} {o : List Int} (h : Enc w0 w ge (fun _ => False) o) (x : Obj) : Enc w0 (w.alloc x) ge (fun k => k = w.heap.size) o ∧ ge ≠ w.heap.size := by
 obtain ⟨h1, h2, A, c, h3, h4⟩ := h
 refine ⟨⟨h1, below_alloc h2 _, A, c, blk_alloc h3 _, Kd.R_alloc (Kd.R_mono (Kd.R_bound h4) (fun k hk => ⟨hk.1.1, fun e => by have := hk.2.2.1; omega⟩)) _⟩, fun e => by have := blk_lt h3; omega⟩
set_option maxRecDepth 100000 in
set_option maxHeartbeats 4000000 in
theorem bytes_calls (ge : Nat) (o : List Int) (A : Option Addr) (c : Nat) (l : List Int) (w0 w : World) (hE : Enc w0 w ge (fun _ => False) o) (hr : Kd.C (Kd.int .u8) w0 A l.length l) (hl : l.length ≤ 1048576) (ho : o.length ≤ 1099511627776) :
  Calls Try.prog 145 #[.pointer (some ⟨ge, 0, none⟩), .slice A l.length c] w fun e w' => e = .returned (.tuple #[]) ∧ Enc w0 w' ge (fun _ => False) (o ++ (varint l.length ++ l)) := by
 have HR0 := zA hr
 obtain ⟨hE1, hne⟩ := hE.list (.cells #[.int .i64 (l.length : Int)] 3)
 have hnum := numbers_calls ge w.heap.size o [l.length] w0 _ hE1 ((heap_alloc_new w _).trans rfl) hne zq42 zq14 ho
 have e1 : nums [l.length] = varint l.length := by simp [nums]
 rw [e1] at hnum
 clear hr hE hE1 hne e1
 go_enter Try.func145, Try.ntmps145
 go_wp2_with fail
 go_at_call 144
 refine hnum.mono ?_
 rintro e w1 ⟨rfl, hE2⟩
 obtain ⟨hge0, hB, Ao, co, hb, hR⟩ := hE2
 have hvl := varint_len10 (n := l.length) zq3
 generalize hp : o ++ varint l.length = p at hb hR
 have HP := zA hp
 have hpl : p.length ≤ 1099511627800 := by rw [← hp, List.length_append]; omega
 clear hp
 have HB0 := zA hB
 have HBK := zA hb
 have HR := zA hR
 have HFR := zA (show ∀ k, w1.heap.size ≤ k → k ≠ ge ∧ ¬ False from fun k hk => ⟨fun e => by have := blk_lt HBK.out; omega, id⟩)
 have HRF := zA (Kd.R_mono hR (ok' := fun k => k ≠ ge ∧ ¬ False) (fun k hk => ⟨hk.1, id⟩))
 have hcg : w1.cell? ⟨ge, 0, none⟩ = some (.slice Ao p.length co) := (blk_cell hb 0).trans rfl
 have hfg := blk_frozen hb 0
 clear hB hb hR
 go_wp2_with (at_builtin; refine Kd.R_append_rows (Kd.int .u8) (Rr := (Kd.int .u8).K w1) (w0 := w0) w0.heap.size rfl (.tmp 13) (.tmp 14) 33 5 (.int .u8 0) 1 rfl Try.underlying33 infoB rfl zq13 zq13 (.slice Ao p.length co) p l A l.length c (fun k => k ≠ ge ∧ ¬ False) (fun _ => False) rfl rfl HRF.out (Kd.C_below HR0.out HB0.out) (fun x cs h => h) (fun _ h => h.elim) HFR.out HB0.out HB0.out.size zq3 ?_; rintro v1 w2 hR1 hB1 hg1 hat1; obtain ⟨A1, c1, rfl⟩ := Kd.R_slice hR1; have hb1 := blk_grown HBK.out hg1 (fun e => (HR.out.1 ge e.symm).1 rfl); have hcg1 : w2.cell? ⟨ge, 0, none⟩ = some (.slice Ao p.length co) := (blk_cell hb1 0).trans rfl; have hfg1 := blk_frozen hb1 0)
 go_end0
 refine ⟨rfl, ?_⟩
 rw [← List.append_assoc, HP.out]
 exact ⟨hge0, below_set hB1 hge0, A1, c1, blk_put (cs := #[.slice Ao p.length co]) hb1 0 _ (by rw [List.length_append]; rfl), Kd.R_far hR1 (fun k hk => hk.1) _⟩
theorem xor_u32 (a b : Nat) (ha : a < 4294967296) (hb : b < 4294967296) : Go.bits .xor .u32 (a : Int) (b : Int) = ((a ^^^ b : Nat) : Int) := by
 have hx : a ^^^ b < 2 ^ 32 := Nat.xor_lt_two_pow zq3 zq3
 have h1 : (BitVec.ofInt 32 (a : Int)).toNat = a := by
  rw [BitVec.ofInt_natCast, BitVec.toNat_ofNat]; exact Nat.mod_eq_of_lt zq3
 have h2 : (BitVec.ofInt 32 (b : Int)).toNat = b := by
  rw [BitVec.ofInt_natCast, BitVec.toNat_ofNat]; exact Nat.mod_eq_of_lt zq3
 have hw : ∀ n : Int, IntKind.u32.wrap n = n % 4294967296 := fun n => by simp [IntKind.wrap, IntKind.bits, IntKind.signed]
 show IntKind.u32.wrap ((BitVec.ofInt 32 (a : Int) ^^^ BitVec.ofInt 32 (b : Int)).toNat : Int) = _
 rw [BitVec.toNat_xor, h1, h2, hw]
 omega
set_option maxRecDepth 100000 in
set_option maxHeartbeats 4000000 in
theorem sum_calls (A : Option Addr) (c : Nat) (l : List Int) (w : World) (hr : Kd.C (Kd.int .u8) w A l.length l) (hb : ∀ x ∈ l, 0 ≤ x ∧ x ≤ 255) (hl : l.length ≤ 1099511627776) :
  Calls Try.prog 146 #[.slice A l.length c] w fun e w' => e = .returned (.int .u32 (sum l : Int)) ∧ w' = w := by
 have HR := zA hr
 have HB := zA hb
 clear hr hb
 go_enter Try.func146, Try.ntmps146
 go_wp2
 go_loopg [3, 8] l.length (fun gg s3 s8 wr => ∃ i : Nat, i ≤ l.length ∧ l.length - i ≤ gg ∧ s3 = .int .u32 (sum (l.take i) : Int) ∧ s8 = .int .i64 i ∧ w = wr)
 case atStart => exact ⟨0, zq3, zq3, rfl, rfl, rfl⟩
 case round =>
  obtain ⟨i, hi, hg, rfl, rfl, hw_⟩ := hrel
  subst hw_
  by_cases hlt : i < l.length
  ·have hltz : (i : Int) < (l.length : Int) := by omega
   obtain ⟨ad, hA, _⟩ := HR.out.2.2 zq3
   subst hA
   have hcell := cellB HR.out i hlt
   have ht : l.take (i + 1) = l.take i ++ [l.getD i 0] := by
    rw [List.take_succ_eq_append_getElem hlt, getD_get' l i hlt]
   obtain ⟨c0, c1⟩ := HB.out (l.getD i 0) (by rw [getD_get' l i hlt]; exact List.getElem_mem hlt)
   have hs := sum_lt (l.take i)
   have hstep : sum (l.take (i + 1)) = mix (sum (l.take i)) (l.getD i 0) := by rw [ht, sum_snoc]
   have HS := zA hstep
   clear hstep ht
   generalize hh : sum (l.take i) = h at hs HS
   generalize hx : l.getD i 0 = x at hcell c0 c1 HS
   clear hh hx
   go_wp2
   go_roundg (l.length - (i + 1))
   case measure => omega
   case rel =>
    refine ⟨i + 1, zq3, zq3, ?_, by go_num, rfl⟩
    have e1 : Go.bits .xor .u32 (h : Int) x = ((h ^^^ x.toNat : Nat) : Int) := by
     have := xor_u32 h x.toNat hs zq3
     rwa [Int.toNat_of_nonneg c0] at this
    show Value.int .u32 (Go.bits .xor .u32 (h : Int) x * 16777619 % 4294967296) = _
    rw [HS.out, e1]
    unfold mix
    first | rfl | (congr 1; done) | (congr 1; omega)
  ·have hltz : ¬ (i : Int) < (l.length : Int) := by omega
   obtain rfl : i = l.length := by omega
   go_wp2
   go_ret
   exact ⟨by first | rfl | simp, rfl⟩
end Go.Proofs.Ytmgmdnmfalepkaa.EncA
