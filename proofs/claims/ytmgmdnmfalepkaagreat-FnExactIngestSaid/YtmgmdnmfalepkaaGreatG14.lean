/- Parts of the proof (see the row's own text): EncA, DecB, EncB, SegOk, Decode. -/
import Derived.Test.YtmgmdnmfalepkaaGreatG11
import Derived.Test.YtmgmdnmfalepkaaGreatG5
import Derived.Deep.RegionLaw
import Derived.Deep.RegionHeld3
import Derived.Test.YtmgmdnmfalepkaaGreatG13
import Derived.Test.YtmgmdnmfalepkaaGreatG12
import Derived.Deep.QuietTactic
import Derived.BigQuiet
namespace Go.Proofs.YtmgmdnmfalepkaaGreat.EncA
open Go.RowKit Go.Proofs.YtmgmdnmfalepkaaGreatW.PrintWords Go.Proofs.YtmgmdnmfalepkaaGreatW.PrintMore Go.Proofs.YtmgmdnmfalepkaaGreat.Kit Go.Proofs.YtmgmdnmfalepkaaGreat.PKit Go.Proofs.YtmgmdnmfalepkaaGreat.Ty Go.Proofs.YtmgmdnmfalepkaaGreat.PEnc Go.Proofs.YtmgmdnmfalepkaaGreat.Build
set_option linter.unusedVariables false
def Enc (w0 w : World) (ge : Nat) (No : Nat → Prop) (o : List Int) : Prop :=
  w0.heap.size ≤ ge ∧ Below w0.heap.size w0 w ∧ ∃ A c, w.heap[ge]? = some (.cells #[.slice A o.length c] 120 (0, 0)) ∧ Kd.R (Kd.int .u8) 5 w w0.heap.size (fun k => k ≠ ge ∧ ¬ No k) (.slice A o.length c) o
theorem or128 (n : Nat) : Go.bits .or .u8 ((n : Int) % 256) 128 = ((n % 128 + 128 : Nat) : Int) := by
  have key : ∀ m : Fin 256, Go.bits .or .u8 ((m.val : Nat) : Int) 128 = ((m.val % 128 + 128 : Nat) : Int) := by decide +kernel
  have := key ⟨n % 256, Nat.mod_lt _ (by decide)⟩
  have e : ((n % 256 : Nat) : Int) = (n : Int) % 256 := by omega
  simp only [e] at this
  rw [this]
  have : n % 256 % 128 = n % 128 := by omega
  rw [this]
theorem getD_get' (l : List Int) (i : Nat) (h : i < l.length) : l.getD i 0 = l[i] := by simp [List.getD, List.getElem?_eq_getElem h]
def nums (ns : List Nat) : List Int := ns.flatMap varint
theorem nums_take (ns : List Nat) (i : Nat) (h : i < ns.length) : nums (ns.take (i + 1)) = nums (ns.take i) ++ varint (ns.getD i 0) := by
  unfold nums
  rw [List.take_succ_eq_append_getElem h, List.flatMap_append]
  congr 1
  simp [List.getD, List.getElem?_eq_getElem h]
theorem nums_len (ns : List Nat) (hn : ∀ n ∈ ns, n < 4611686018427387904) : (nums ns).length ≤ 9 * ns.length := by
  induction ns with
  | nil => simp [nums]
  | cons n r ih =>
    have h1 := varint_len10 (hn n (by simp))
    have h2 := ih (fun m hm => hn m (List.mem_cons_of_mem _ hm))
    have e : nums (n :: r) = varint n ++ nums r := rfl
    rw [e, List.length_append, List.length_cons]
    omega
set_option maxRecDepth 100000 in
set_option maxHeartbeats 4000000 in
theorem numbers_calls (ge gL : Nat) (o : List Int) (ns : List Nat) (w0 w : World) (hE : Enc w0 w ge (fun k => k = gL) o) (hL : w.heap[gL]? = some (.cells (ns.map fun (n : Nat) => Value.int .i64 (n : Int)).toArray 3 (0, 0))) (hge : ge ≠ gL)
    (hn : ∀ n ∈ ns, n < 4611686018427387904) (hl : ns.length ≤ 1000) (ho : o.length ≤ 1099511627776) :
    Calls Tryz.prog 96 #[.pointer (some ⟨ge, 0, none⟩), .slice (some ⟨gL, 0, none⟩) ns.length ns.length] w fun e w' => e = .returned (.tuple #[]) ∧ Enc w0 w' ge (fun k => k = gL) (o ++ nums ns) := by
  have HE := Aside0.mk hE
  have HL := Aside0.mk hL
  have HN := Aside0.mk hn
  clear hE hL hn
  go_enter Tryz.func96, Tryz.ntmps96
  go_wp2
  go_loopg [8] ns.length (fun gg s8 wr => ∃ i : Nat, i ≤ ns.length ∧ ns.length - i ≤ gg ∧ s8 = .int .i64 i ∧ Aside0 (Enc w0 wr ge (fun k => k = gL) (o ++ nums (ns.take i))) ∧ Aside0 (wr.heap[gL]? = some (.cells (ns.map fun (n : Nat) => Value.int .i64 (n : Int)).toArray 3 (0, 0))))
  case atStart => exact ⟨0, by omega, by omega, rfl, ⟨by simpa [nums] using HE.out⟩, HL⟩
  case round =>
    obtain ⟨i, hi, hg, rfl, HE1, HL1⟩ := hrel
    by_cases hlt : i < ns.length
    · have hltz : (i : Int) < (ns.length : Int) := by omega
      have hcell : wr.cell? ⟨gL, i, none⟩ = some (.int .i64 ((ns.getD i 0 : Nat) : Int)) := (blk_cell HL1.out i).trans (by simp [List.getD, List.getElem?_eq_getElem hlt])
      have hnb := HN.out (ns.getD i 0) (by simp [List.getD, List.getElem?_eq_getElem hlt])
      have HT := Aside0.mk (nums_take ns i hlt)
      have HNL := Aside0.mk (nums_len (ns.take i) (fun n hn => HN.out n (List.mem_of_mem_take hn)))
      have HVL := Aside0.mk (varint_len10 hnb)
      generalize hx : ns.getD i 0 = n at hcell hnb HT HVL
      clear hx
      rename World => wo
      go_wp2
      go_loopg [5] n (fun gg s5 wr => ∃ (m : Nat) (p : List Int), m ≤ gg ∧ m ≤ n ∧ s5 = .int .i64 m ∧ Aside0 (p ++ varint m = o ++ nums (ns.take i) ++ varint n) ∧ Aside0 (Enc w0 wr ge (fun k => k = gL) p) ∧ Aside0 (wr.heap[gL]? = some (.cells (ns.map fun (n : Nat) => Value.int .i64 (n : Int)).toArray 3 (0, 0))))
      case atStart => exact ⟨n, o ++ nums (ns.take i), Nat.le_refl _, Nat.le_refl _, rfl, ⟨rfl⟩, HE1, HL1⟩
      case round =>
        rename World => wi
        obtain ⟨m, p, hm, hmn, rfl, HP, HE2, HL2⟩ := hrel
        have hpl : p.length ≤ 1099511700000 := by
          have h1 := congrArg List.length HP.out
          have h2 := HNL.out
          have h3 := HVL.out
          simp only [List.length_append] at h1
          rw [List.length_take] at h2
          omega
        obtain ⟨hge0, hB, Ao, co, hb, hR⟩ := HE2.out
        have HB0 := Aside0.mk hB
        have HBK := Aside0.mk hb
        have HR := Aside0.mk hR
        have HFR := Aside0.mk (show ∀ k, wi.heap.size ≤ k → k ≠ ge ∧ ¬ k = gL from fun k hk => ⟨fun e => by have := blk_lt HBK.out; omega, fun e => by have := blk_lt HL2.out; omega⟩)
        have hcg : wi.cell? ⟨ge, 0, none⟩ = some (.slice Ao p.length co) := (blk_cell hb 0).trans rfl
        have hfg := blk_frozen hb 0
        clear hB hb hR
        by_cases h128 : 128 ≤ m
        · have hz : (128 : Int) ≤ (m : Int) := by omega
          go_wp2_with (first | (at_builtin; refine Kd.R_append (Kd.int .u8) (w0 := w0) w0.heap.size rfl (.tmp 18) (.tmp 22) 25 5 (.int .u8 0) 1 rfl Tryz.underlying25 infoB rfl (by decide) (by decide) (.slice Ao p.length co) p _ [.int .u8 _] (fun k => k ≠ ge ∧ ¬ k = gL) (fun _ => False) rfl rfl rfl (fun _ h => h.elim) HFR.out HR.out HB0.out HB0.out.size (by omega) ?_; rintro v1 w1 hR1 hB1 hg1 hat1; obtain ⟨A1, c1, rfl⟩ := Kd.R_slice hR1; have hb1 := blk_grown HBK.out hg1 (fun e => (HR.out.1 ge e.symm).1 rfl); have hL1 := blk_grown HL2.out hg1 (fun e => (HR.out.1 gL e.symm).2 rfl); have hcg1 : w1.cell? ⟨ge, 0, none⟩ = some (.slice Ao p.length co) := (blk_cell hb1 0).trans rfl; have hfg1 := blk_frozen hb1 0))
          rw [or128 m] at hR1
          go_roundg (m / 128)
          case measure => omega
          case rel =>
            refine ⟨m / 128, p ++ [((m % 128 + 128 : Nat) : Int)], Nat.le_refl _, by omega, ?_, ⟨?_⟩, ⟨hge0, below_set hB1 hge0, A1, c1, ?_, Kd.R_far hR1 (fun k hk => hk.1) _⟩, ⟨blk_far hL1 (fun e => hge e.symm) _⟩⟩
            · show Value.int .i64 ((m : Int) / 128) = _
              first | rfl | (congr 1; omega)
            · rw [← HP.out, varint_ge (n := m) (by omega), List.append_assoc]
              rfl
            · refine blk_put (cs := #[.slice Ao p.length co]) hb1 0 _ ?_
              simp only [List.length_append, List.length_singleton]
              rfl
        · have hz : ¬ (128 : Int) ≤ (m : Int) := by omega
          go_wp2_with (first | (at_builtin; refine Kd.R_append (Kd.int .u8) (w0 := w0) w0.heap.size rfl (.tmp 32) (.tmp 35) 25 5 (.int .u8 0) 1 rfl Tryz.underlying25 infoB rfl (by decide) (by decide) (.slice Ao p.length co) p _ [.int .u8 _] (fun k => k ≠ ge ∧ ¬ k = gL) (fun _ => False) rfl rfl rfl (fun _ h => h.elim) HFR.out HR.out HB0.out HB0.out.size (by omega) ?_; rintro v1 w1 hR1 hB1 hg1 hat1; obtain ⟨A1, c1, rfl⟩ := Kd.R_slice hR1; have hb1 := blk_grown HBK.out hg1 (fun e => (HR.out.1 ge e.symm).1 rfl); have hL1 := blk_grown HL2.out hg1 (fun e => (HR.out.1 gL e.symm).2 rfl); have hcg1 : w1.cell? ⟨ge, 0, none⟩ = some (.slice Ao p.length co) := (blk_cell hb1 0).trans rfl; have hfg1 := blk_frozen hb1 0))
          go_roundg (ns.length - (i + 1))
          case measure => omega
          case rel =>
            have hpn : o ++ nums (ns.take (i + 1)) = p ++ [(m : Int)] := by rw [HT.out, ← List.append_assoc, ← HP.out, varint_lt (by omega)]
            refine ⟨i + 1, by omega, by omega, by go_num, ⟨?_⟩, ⟨blk_far hL1 (fun e => hge e.symm) _⟩⟩
            rw [hpn]
            refine ⟨hge0, below_set hB1 hge0, A1, c1, ?_, Kd.R_far hR1 (fun k hk => hk.1) _⟩
            refine blk_put (cs := #[.slice Ao p.length co]) hb1 0 _ ?_
            simp only [List.length_append, List.length_singleton]
            rfl
    · have hltz : ¬ (i : Int) < (ns.length : Int) := by omega
      obtain rfl : i = ns.length := by omega
      go_wp2
      go_end0
      have h1 := HE1.out
      rw [List.take_length] at h1
      exact ⟨rfl, h1⟩
theorem Enc.mono {w0 w : World} {ge : Nat} {No No' : Nat → Prop} {o : List Int} (h : Enc w0 w ge No o) (hn : ∀ k, No' k → No k) : Enc w0 w ge No' o := by
  obtain ⟨h1, h2, A, c, h3, h4⟩ := h
  exact ⟨h1, h2, A, c, h3, Kd.R_mono h4 (fun k hk => ⟨hk.1, fun h => hk.2 (hn k h)⟩)⟩
theorem Enc.list {w0 w : World} {ge : Nat} {o : List Int} (h : Enc w0 w ge (fun _ => False) o) (x : Obj) : Enc w0 (w.alloc x) ge (fun k => k = w.heap.size) o ∧ ge ≠ w.heap.size := by
  obtain ⟨h1, h2, A, c, h3, h4⟩ := h
  refine ⟨⟨h1, below_alloc h2 _, A, c, blk_alloc h3 _, Kd.R_alloc (Kd.R_mono (Kd.R_bound h4) (fun k hk => ⟨hk.1.1, fun e => by have := hk.2.2.1; omega⟩)) _⟩, fun e => by have := blk_lt h3; omega⟩
set_option maxRecDepth 100000 in
set_option maxHeartbeats 4000000 in
theorem bytes_calls (ge : Nat) (o : List Int) (A : Option Addr) (c : Nat) (l : List Int) (w0 w : World) (hE : Enc w0 w ge (fun _ => False) o) (hr : Kd.C (Kd.int .u8) w0 A l.length l) (hl : l.length ≤ 1048576) (ho : o.length ≤ 1099511627776) :
    Calls Tryz.prog 97 #[.pointer (some ⟨ge, 0, none⟩), .slice A l.length c] w fun e w' => e = .returned (.tuple #[]) ∧ Enc w0 w' ge (fun _ => False) (o ++ (varint l.length ++ l)) := by
  have HR0 := Aside0.mk hr
  obtain ⟨hE1, hne⟩ := hE.list (.cells #[.int .i64 (l.length : Int)] 3)
  have hnum := numbers_calls ge w.heap.size o [l.length] w0 _ hE1 ((heap_alloc_new w _).trans rfl) hne (by simp; omega) (by simp) ho
  have e1 : nums [l.length] = varint l.length := by simp [nums]
  rw [e1] at hnum
  clear hr hE hE1 hne e1
  go_enter Tryz.func97, Tryz.ntmps97
  go_wp2_with fail
  go_at_call 96
  refine hnum.mono ?_
  rintro e w1 ⟨rfl, hE2⟩
  obtain ⟨hge0, hB, Ao, co, hb, hR⟩ := hE2
  have hvl := varint_len10 (n := l.length) (by omega)
  generalize hp : o ++ varint l.length = p at hb hR
  have HP := Aside0.mk hp
  have hpl : p.length ≤ 1099511627800 := by rw [← hp, List.length_append]; omega
  clear hp
  have HB0 := Aside0.mk hB
  have HBK := Aside0.mk hb
  have HR := Aside0.mk hR
  have HFR := Aside0.mk (show ∀ k, w1.heap.size ≤ k → k ≠ ge ∧ ¬ False from fun k hk => ⟨fun e => by have := blk_lt HBK.out; omega, id⟩)
  have HRF := Aside0.mk (Kd.R_mono hR (ok' := fun k => k ≠ ge ∧ ¬ False) (fun k hk => ⟨hk.1, id⟩))
  have hcg : w1.cell? ⟨ge, 0, none⟩ = some (.slice Ao p.length co) := (blk_cell hb 0).trans rfl
  have hfg := blk_frozen hb 0
  clear hB hb hR
  go_wp2_with (at_builtin; refine Kd.R_append_rows (Kd.int .u8) (Rr := (Kd.int .u8).K w1) (w0 := w0) w0.heap.size rfl (.tmp 13) (.tmp 14) 25 5 (.int .u8 0) 1 rfl Tryz.underlying25 infoB rfl (by decide) (by decide) (.slice Ao p.length co) p l A l.length c (fun k => k ≠ ge ∧ ¬ False) (fun _ => False) rfl rfl HRF.out (Kd.C_below HR0.out HB0.out) (fun x cs h => h) (fun _ h => h.elim) HFR.out HB0.out HB0.out.size (by omega) ?_; rintro v1 w2 hR1 hB1 hg1 hat1; obtain ⟨A1, c1, rfl⟩ := Kd.R_slice hR1; have hb1 := blk_grown HBK.out hg1 (fun e => (HR.out.1 ge e.symm).1 rfl); have hcg1 : w2.cell? ⟨ge, 0, none⟩ = some (.slice Ao p.length co) := (blk_cell hb1 0).trans rfl; have hfg1 := blk_frozen hb1 0)
  go_end0
  refine ⟨rfl, ?_⟩
  rw [← List.append_assoc, HP.out]
  exact ⟨hge0, below_set hB1 hge0, A1, c1, blk_put (cs := #[.slice Ao p.length co]) hb1 0 _ (by rw [List.length_append]; rfl), Kd.R_far hR1 (fun k hk => hk.1) _⟩
theorem xor_u32 (a b : Nat) (ha : a < 4294967296) (hb : b < 4294967296) : Go.bits .xor .u32 (a : Int) (b : Int) = ((a ^^^ b : Nat) : Int) := by
  have hx : a ^^^ b < 2 ^ 32 := Nat.xor_lt_two_pow (by omega) (by omega)
  have h1 : (BitVec.ofInt 32 (a : Int)).toNat = a := by
    rw [BitVec.ofInt_natCast, BitVec.toNat_ofNat]; exact Nat.mod_eq_of_lt (by omega)
  have h2 : (BitVec.ofInt 32 (b : Int)).toNat = b := by
    rw [BitVec.ofInt_natCast, BitVec.toNat_ofNat]; exact Nat.mod_eq_of_lt (by omega)
  have hw : ∀ n : Int, IntKind.u32.wrap n = n % 4294967296 := fun n => by simp [IntKind.wrap, IntKind.bits, IntKind.signed]
  show IntKind.u32.wrap ((BitVec.ofInt 32 (a : Int) ^^^ BitVec.ofInt 32 (b : Int)).toNat : Int) = _
  rw [BitVec.toNat_xor, h1, h2, hw]
  omega
set_option maxRecDepth 100000 in
set_option maxHeartbeats 4000000 in
theorem sum_calls (A : Option Addr) (c : Nat) (l : List Int) (w : World) (hr : Kd.C (Kd.int .u8) w A l.length l) (hb : ∀ x ∈ l, 0 ≤ x ∧ x ≤ 255) (hl : l.length ≤ 1099511627776) :
    Calls Tryz.prog 98 #[.slice A l.length c] w fun e w' => e = .returned (.int .u32 (sum l : Int)) ∧ w' = w := by
  have HR := Aside0.mk hr
  have HB := Aside0.mk hb
  clear hr hb
  go_enter Tryz.func98, Tryz.ntmps98
  go_wp2
  go_loopg [3, 8] l.length (fun gg s3 s8 wr => ∃ i : Nat, i ≤ l.length ∧ l.length - i ≤ gg ∧ s3 = .int .u32 (sum (l.take i) : Int) ∧ s8 = .int .i64 i ∧ w = wr)
  case atStart => exact ⟨0, by omega, by omega, rfl, rfl, rfl⟩
  case round =>
    obtain ⟨i, hi, hg, rfl, rfl, hw_⟩ := hrel
    subst hw_
    by_cases hlt : i < l.length
    · have hltz : (i : Int) < (l.length : Int) := by omega
      obtain ⟨ad, hA, _⟩ := HR.out.2.2 (by omega)
      subst hA
      have hcell := cellB HR.out i hlt
      have ht : l.take (i + 1) = l.take i ++ [l.getD i 0] := by
        rw [List.take_succ_eq_append_getElem hlt, getD_get' l i hlt]
      obtain ⟨c0, c1⟩ := HB.out (l.getD i 0) (by rw [getD_get' l i hlt]; exact List.getElem_mem hlt)
      have hs := sum_lt (l.take i)
      have hstep : sum (l.take (i + 1)) = mix (sum (l.take i)) (l.getD i 0) := by rw [ht, sum_snoc]
      have HS := Aside0.mk hstep
      clear hstep ht
      generalize hh : sum (l.take i) = h at hs HS
      generalize hx : l.getD i 0 = x at hcell c0 c1 HS
      clear hh hx
      go_wp2
      go_roundg (l.length - (i + 1))
      case measure => omega
      case rel =>
        refine ⟨i + 1, by omega, by omega, ?_, by go_num, rfl⟩
        have e1 : Go.bits .xor .u32 (h : Int) x = ((h ^^^ x.toNat : Nat) : Int) := by
          have := xor_u32 h x.toNat hs (by omega)
          rwa [Int.toNat_of_nonneg c0] at this
        show Value.int .u32 (Go.bits .xor .u32 (h : Int) x * 16777619 % 4294967296) = _
        rw [HS.out, e1]
        unfold mix
        first | rfl | (congr 1; done) | (congr 1; omega)
    · have hltz : ¬ (i : Int) < (l.length : Int) := by omega
      obtain rfl : i = l.length := by omega
      go_wp2
      go_ret
      exact ⟨by first | rfl | simp, rfl⟩
end Go.Proofs.YtmgmdnmfalepkaaGreat.EncA

namespace Go.Proofs.YtmgmdnmfalepkaaGreat.DecB
open Go.RowKit Go.Proofs.YtmgmdnmfalepkaaGreatW.PrintWords Go.Proofs.YtmgmdnmfalepkaaGreatW.PrintMore Go.Proofs.YtmgmdnmfalepkaaGreat.Kit Go.Proofs.YtmgmdnmfalepkaaGreat.PKit Go.Proofs.YtmgmdnmfalepkaaGreat.Ty Go.Proofs.YtmgmdnmfalepkaaGreat.PDec Go.Proofs.YtmgmdnmfalepkaaGreat.Build Go.Proofs.YtmgmdnmfalepkaaGreat.HelpBB Go.Proofs.YtmgmdnmfalepkaaGreat.DecA
set_option linter.unusedVariables false
abbrev Ls (w0 w : World) (v : Value) (ls : List (List Int)) : Prop := OwnRow (kB.K w0) 25 1 w w0.heap.size v ls
theorem Ls.kept {w0 w W : World} {v : Value} {ls : List (List Int)} {g : Nat} (h : Ls w0 w v ls) (hk : Kept w W (fun k => k = g)) (hne : v.ownBlock ≠ some g) : Ls w0 W v ls := by
  obtain ⟨inner, ho, hr⟩ := h
  refine ⟨inner, own_move ho (fun k hk' => hk.2 k ?_ (fun e => hne (by rw [hk', e]))), hr⟩
  obtain ⟨cells, hc⟩ := own_typed ho k hk'
  exact blk_lt hc
def Rel (n : Nat) (b0 : List Int) (j : Nat) (acc : List (List Int)) (r : List Int) (bad : Bool) : Prop :=
  (bad = false → rdLines 5 n b0 = (rdLines 5 (n - j) r).map fun p => (acc ++ p.1, p.2)) ∧ (bad = true → rdLines 5 n b0 = none)
def lineS (r : List Int) (bad : Bool) : List Int × List Int × Bool := takeS (numS r bad).1 (numS r bad).2.1 (numS r bad).2.2
theorem Rel.step {n : Nat} {b0 : List Int} {j : Nat} {acc : List (List Int)} {r : List Int} {bad : Bool} (h : Rel n b0 j acc r bad) (hj : j < n) : Rel n b0 (j + 1) (acc ++ [(lineS r bad).1]) (lineS r bad).2.1 (lineS r bad).2.2 := by
  obtain ⟨h1, h2⟩ := h
  cases bad with
  | true =>
    have hn : (numS r true).2.2 = true := by
      unfold numS
      cases rdNum 5 r <;> rfl
    have ht : (lineS r true).2.2 = true := by
      unfold lineS takeS
      rw [hn]
      split <;> rfl
    rw [ht]
    exact ⟨fun e => Bool.noConfusion e, fun _ => h2 rfl⟩
  | false =>
    have h1 := h1 rfl
    have e1 : n - j = (n - (j + 1)) + 1 := by omega
    rw [e1] at h1
    have e2 : rdLines 5 (n - (j + 1) + 1) r = (rdLine 5 r).bind fun q => (rdLines 5 (n - (j + 1)) q.2).map fun p => (q.1 :: p.1, p.2) := rfl
    rw [e2] at h1
    unfold rdLine at h1
    unfold lineS numS
    cases hq : rdNum 5 r with
    | none =>
      rw [hq] at h1
      have ht : takeS 0 r true = ([], r, true) := by unfold takeS; rw [if_pos (Nat.zero_le _)]; simp
      simp only [ht]
      exact ⟨fun e => Bool.noConfusion e, fun _ => h1⟩
    | some q =>
      obtain ⟨m, t⟩ := q
      rw [hq] at h1
      simp only
      by_cases hm : m ≤ t.length
      · have ht : takeS m t false = (t.take m, t.drop m, false) := if_pos hm
        rw [ht]
        refine ⟨fun _ => ?_, fun e => Bool.noConfusion e⟩
        rw [h1, Option.bind_some]
        simp only
        rw [if_pos hm, Option.bind_some, Option.map_map]
        refine congrArg (fun f => Option.map f _) (funext fun q => ?_)
        simp
      · have ht : takeS m t false = ([], t, true) := if_neg hm
        rw [ht]
        refine ⟨fun e => Bool.noConfusion e, fun _ => ?_⟩
        rw [h1, Option.bind_some]
        simp only
        rw [if_neg hm]
        rfl
theorem numS_sub (r : List Int) (bad : Bool) (hb : ∀ x ∈ r, 0 ≤ x ∧ x ≤ 255) : (∃ m, (numS r bad).2.1 = r.drop m) ∧ (numS r bad).1 < 34359738368 := by
  unfold numS
  cases hq : rdNum 5 r with
  | none => exact ⟨⟨0, rfl⟩, by show (0 : Nat) < 34359738368; omega⟩
  | some q =>
    obtain ⟨v, t⟩ := q
    obtain ⟨e1, m, _, _, _, e2⟩ := rdNum_some 5 r v t hb hq
    exact ⟨⟨m, e2⟩, Nat.lt_of_lt_of_le e1 (by decide)⟩
theorem takeS_sub (n : Nat) (r : List Int) (bad : Bool) : ∃ m, (takeS n r bad).2.1 = r.drop m := by
  unfold takeS
  split
  · exact ⟨n, rfl⟩
  · exact ⟨0, rfl⟩
def End (b r : List Int) : Prop := (∀ x ∈ r, 0 ≤ x ∧ x ≤ 255) ∧ r.length ≤ b.length
theorem End.drop {b r r' : List Int} (h : End b r) (hm : ∃ m, r' = r.drop m) : End b r' := by
  obtain ⟨m, rfl⟩ := hm
  exact ⟨bytes_drop h.1 m, by have := h.2; rw [List.length_drop]; omega⟩
theorem two_row (W : World) (g : Nat) (x1 x2 : Int) (h : W.heap[g]? = some (.cells #[.int .u8 x1, .int .u8 x2] 5 (0, 0))) : Kd.C (Kd.int .u8) W (some ⟨g, 0, none⟩) 2 [x1, x2] := by
  obtain ⟨A, c, e, _, hC⟩ := Kd.R_reads (Kd.R_of_own (xs := [x1, x2]) (h1 := fun _ => rfl) (enc := Value.int .u8) (ok := fun _ => True) (base := 0) (w := W) (e := 5) (v := .slice (some ⟨g, 0, none⟩) 2 2) ⟨rfl, .inr ⟨g, 2, _, rfl, Nat.zero_le _, h, by simp, by simp [maxLen], rfl, rfl⟩⟩ (fun _ _ => trivial))
  obtain rfl : some ⟨g, 0, none⟩ = A := by injection e
  exact hC
theorem head_bad (r : List Int) (h : (numS (numS r false).2.1 (numS r false).2.2).2.2 = true) : rdHead 5 r = none := by
  unfold rdHead
  unfold numS at h
  cases hq : rdNum 5 r with
  | none => rfl
  | some q =>
    rw [hq] at h
    rw [Option.bind_some]
    simp only at h ⊢
    cases hp : rdNum 5 q.2 with
    | none => rfl
    | some p => rw [hp] at h; cases h
theorem head_ok (r : List Int) (h : (numS (numS r false).2.1 (numS r false).2.2).2.2 = false) : rdHead 5 r = if (numS (numS r false).2.1 (numS r false).2.2).1 ≤ 1000 then (rdLines 5 (numS (numS r false).2.1 (numS r false).2.2).1 (numS (numS r false).2.1 (numS r false).2.2).2.1).map fun l => (((numS r false).1 : Int), l.1) else none := by
  unfold rdHead
  unfold numS at h ⊢
  cases hq : rdNum 5 r with
  | none =>
    rw [hq] at h
    simp only at h
    cases hp : rdNum 5 r with
    | none => rw [hp] at h; cases h
    | some p => rw [hq] at hp; cases hp
  | some q =>
    rw [hq] at h
    rw [Option.bind_some]
    simp only at h ⊢
    cases hp : rdNum 5 q.2 with
    | none => rw [hp] at h; cases h
    | some p => rfl
def Found (w0 w' : World) (g : Nat) (b : List Int) (e : Ending) : Prop := match implP b with
  | none => e = .returned (.bool false)
  | some q => e = .returned (.bool true) ∧ ∃ r f3, St w0 w' g r false (.int .i64 q.1) f3 ∧ HelpBB.tBB.K w' q.2 f3
set_option maxRecDepth 100000 in
set_option maxHeartbeats 4000000 in
theorem head_calls (g : Nat) (b : List Int) (w0 w : World) (hS : St w0 w g b false (.int .i64 0) (.slice none 0 0)) (hb : ∀ x ∈ b, 0 ≤ x ∧ x ≤ 255) (hl : b.length ≤ 1048576) :
    Calls Tryz.prog 92 #[.pointer (some ⟨g, 0, none⟩)] w fun e w' => Found w0 w' g b e ∧ Below w0.heap.size w0 w' := by
  have HS := Aside0.mk hS
  have HE := Aside0.mk (show End b b from ⟨hb, Nat.le_refl _⟩)
  have HTK := Aside0.mk (take_calls g 2 b false _ _ w0 w hS hl)
  clear hS hb
  go_enter Tryz.func92, Tryz.ntmps92
  go_wp2_with fail
  go_at_call 107
  refine HTK.out.mono ?_
  rintro e w1 ⟨⟨v1, rfl, hv1⟩, hS1, hk1⟩
  obtain ⟨A1, c1, rfl, hc1, hr1⟩ := hv1
  have HC1 := Aside0.mk hr1
  have HS1 := Aside0.mk hS1
  have hsz := HS.out.2.1.size
  clear hc1 hr1
  go_wp2_with fail
  have hrow := two_row (w1.alloc (.cells #[.int .u8 84, .int .u8 71] 5)) w1.heap.size 84 71 (heap_alloc_new w1 _)
  have heq := Tryz.bytes_Equal (.slice A1 (takeS 2 b false).1.length c1) (.slice (some ⟨w1.heap.size, 0, none⟩) 2 2) (takeS 2 b false).1 [84, 71] (w1.alloc (.cells #[.int .u8 84, .int .u8 71] 5)) (Kd.C_string Tryz.underlying25 Tryz.underlying5 Tryz.underlying9 (Kd.C_below HC1.out (grew_trans HS1.out.2.1 (below_alloc (Below.refl _ _) _)))) (Kd.C_string Tryz.underlying25 Tryz.underlying5 Tryz.underlying9 hrow)
  have hbq : (Go.Lib.bytesOf (takeS 2 b false).1 == Go.Lib.bytesOf [84, 71]) = decide ((takeS 2 b false).1 = [84, 71]) := by
    have := same_bytes (takeS 2 b false).1 [84, 71] (fun x hx => by
      unfold takeS at hx
      split at hx
      · exact HE.out.1 x (List.mem_of_mem_take hx)
      · cases hx) (by intro x hx; simp at hx; omega)
    rw [Go.Lib.strOfNums_toList, Go.Lib.strOfNums_toList] at this
    exact this
  rw [hbq] at heq
  clear hbq hrow
  refine heq.mono ?_
  rintro e w2 ⟨rfl, hw2⟩
  have HS2 := Aside0.mk (show St w0 w2 g (takeS 2 b false).2.1 (takeS 2 b false).2.2 (.int .i64 0) (.slice none 0 0) from by rw [hw2]; exact HS1.out.below (below_alloc (Below.refl _ _) _))
  clear hw2 heq
  by_cases hT : (takeS 2 b false).1 = [84, 71]
  case neg =>
    have HI := Aside0.mk (show implP b = none from by
      unfold implP
      rw [if_neg]
      intro h
      apply hT
      unfold takeS
      have : 2 ≤ b.length := by have := congrArg List.length h; simp at this; omega
      rw [if_pos this]
      exact h)
    rw [decide_eq_false hT]
    go_wp2
    go_ret
    refine ⟨?_, HS2.out.2.1⟩
    unfold Found
    rw [HI.out]
    exact rfl
  case pos =>
    have h2 : 2 ≤ b.length ∧ b.take 2 = [84, 71] := by
      unfold takeS at hT
      by_cases h : 2 ≤ b.length
      · rw [if_pos h] at hT; exact ⟨h, hT⟩
      · rw [if_neg h] at hT; cases hT
    have ht : takeS 2 b false = (b.take 2, b.drop 2, false) := if_pos h2.1
    have HI := Aside0.mk (show implP b = rdHead 5 (b.drop 2) from if_pos h2.2)
    rw [decide_eq_true hT]
    have hS2 := HS2.out
    rw [ht] at hS2
    have HS3 := Aside0.mk hS2
    have HE3 := Aside0.mk (HE.out.drop (r' := b.drop 2) ⟨2, rfl⟩)
    clear ht h2 hT hS2 HS2 HS1 HC1 HTK
    have hbd := Aside0.mk (head_bad (b.drop 2))
    have hok := Aside0.mk (head_ok (b.drop 2))
    have q1 := Aside0.mk (numS_sub (b.drop 2) false HE3.out.1)
    have n1 := Aside0.mk (number_calls g (b.drop 2) false _ _ w0 w2 HS3.out HE3.out.1 (by have := HE3.out.2; omega))
    generalize hN1 : numS (b.drop 2) false = N1 at hbd hok q1 n1
    have HE4 := Aside0.mk (HE3.out.drop q1.out.1)
    go_wp2_with fail
    go_at_call 108
    refine n1.out.mono ?_
    rintro e w3 ⟨rfl, hS3, hk3⟩
    have HS4 := Aside0.mk (hS3.put2 (.int .i64 (N1.1 : Int)))
    obtain ⟨_, _, ca2, fa2, ca3, fa3⟩ := hS3.cell
    have q2 := Aside0.mk (numS_sub N1.2.1 N1.2.2 HE4.out.1)
    have n2 := Aside0.mk (number_calls g N1.2.1 N1.2.2 _ _ w0 _ HS4.out HE4.out.1 (by have := HE4.out.2; omega))
    generalize hN2 : numS N1.2.1 N1.2.2 = N2 at hbd hok q2 n2
    have HE5 := Aside0.mk (HE4.out.drop q2.out.1)
    have hn2 := q2.out.2
    clear hS3 hk3
    go_wp2_with fail
    go_at_call 108
    refine n2.out.mono ?_
    rintro e w4 ⟨rfl, hS5, hk5⟩
    have HS5 := Aside0.mk hS5
    obtain ⟨cb1, fb1, cb2, fb2, cb3, fb3⟩ := hS5.cell
    clear ca2 fa2 ca3 fa3 hS5 hk5 n1 n2 HS4 HS3 hN1 hN2 HE3 HE4 q1 q2
    obtain ⟨n, r0, bad0⟩ := N2
    have hbd : Aside0 (bad0 = true → rdHead 5 (b.drop 2) = none) := hbd
    have hok : Aside0 (bad0 = false → rdHead 5 (b.drop 2) = if n ≤ 1000 then (rdLines 5 n r0).map fun l => ((N1.1 : Int), l.1) else none) := hok
    have HS5 : Aside0 (St w0 w4 g r0 bad0 (.int .i64 (N1.1 : Int)) (.slice none 0 0)) := HS5
    have HE5 : Aside0 (End b r0) := HE5
    have hn2 : n < 34359738368 := hn2
    have cb1 : w4.cell? ⟨g, 1, none⟩ = some (.bool bad0) := cb1
    cases bad0 with
    | true =>
      go_wp2
      go_ret
      refine ⟨?_, HS5.out.2.1⟩
      unfold Found
      rw [HI.out, hbd.out (by simp)]
      exact rfl
    | false =>
      by_cases hn : n ≤ 1000
      case neg =>
        have hnz : (n : Int) > 1000 := by omega
        go_wp2
        go_ret
        refine ⟨?_, HS5.out.2.1⟩
        unfold Found
        rw [HI.out, hok.out (by simp), if_neg hn]
        exact rfl
      case pos =>
        have hnz : ¬ (n : Int) > 1000 := by omega
        have HI2 := Aside0.mk (HI.out.trans ((hok.out (by simp)).trans (if_pos hn)))
        clear hok hbd HI
        go_wp2
        go_loopg [32] n (fun gg s32 wr => ∃ (j : Nat) (acc : List (List Int)) (r : List Int) (bad : Bool) (A3 : Option Addr) (c3 : Nat), j ≤ n ∧ n - j ≤ gg ∧ s32 = .int .i64 (j : Int) ∧ acc.length = j ∧ Aside0 (St w0 wr g r bad (.int .i64 (N1.1 : Int)) (.slice A3 acc.length c3)) ∧ Aside0 (Ls w0 wr (.slice A3 acc.length c3) acc) ∧ Aside0 ((Value.slice A3 acc.length c3).ownBlock ≠ some g) ∧ Aside0 (Rel n r0 j acc r bad) ∧ Aside0 (End b r))
        case atStart => exact ⟨0, [], r0, false, none, 0, by omega, by omega, rfl, rfl, HS5, ⟨⟨[], ⟨rfl, .inl ⟨rfl, rfl⟩⟩, Reps.none _ _⟩⟩, ⟨by simp [Value.ownBlock]⟩, ⟨fun _ => by cases rdLines 5 n r0 <;> simp, fun e => Bool.noConfusion e⟩, HE5⟩
        case round =>
          obtain ⟨j, acc, r, bad, A3, c3, hj, hg, rfl, ha, HS6, HL6, HN6, HR6, HE6⟩ := hrel
          have HAL := Aside0.mk ha
          clear ha
          obtain ⟨d1, e1, d2, e2, d3, e3⟩ := HS6.out.cell
          by_cases hlt : j < n
          · have hltz : (j : Int) < (n : Int) := by omega
            have q1 := Aside0.mk (numS_sub r bad HE6.out.1)
            have q1n := q1.out.2
            have HR7 := Aside0.mk (HR6.out.step hlt)
            have HE7 := Aside0.mk (show End b (lineS r bad).2.1 from (HE6.out.drop q1.out.1).drop (takeS_sub (numS r bad).1 (numS r bad).2.1 (numS r bad).2.2))
            have hnum : ∀ W, Below wr.heap.size wr W → Calls Tryz.prog 108 #[.pointer (some ⟨g, 0, none⟩)] W fun e w' => e = .returned (.int .i64 ((numS r bad).1 : Int)) ∧ St w0 w' g (numS r bad).2.1 (numS r bad).2.2 (.int .i64 (N1.1 : Int)) (.slice A3 acc.length c3) ∧ Kept W w' (fun k => k = g) := fun W hW => number_calls g r bad _ _ w0 W (HS6.out.below hW) HE6.out.1 (by have := HE6.out.2; omega)
            have htk : ∀ W, St w0 W g (numS r bad).2.1 (numS r bad).2.2 (.int .i64 (N1.1 : Int)) (.slice A3 acc.length c3) → Calls Tryz.prog 107 #[.pointer (some ⟨g, 0, none⟩), .int .i64 ((numS r bad).1 : Int)] W fun e w' => (∃ v, e = .returned v ∧ HelpB.tB.K w0 (lineS r bad).1 v) ∧ St w0 w' g (lineS r bad).2.1 (lineS r bad).2.2 (.int .i64 (N1.1 : Int)) (.slice A3 acc.length c3) ∧ Kept W w' (fun k => k = g) := fun W hW => take_calls g (numS r bad).1 (numS r bad).2.1 (numS r bad).2.2 _ _ w0 W hW (by have := (HE6.out.drop q1.out.1).2; omega)
            have HNUM := Aside0.mk hnum
            have HTK := Aside0.mk htk
            clear hnum htk
            generalize (numS r bad).1 = m at HNUM HTK q1n
            generalize (numS r bad).2.1 = rn at HNUM HTK
            generalize (numS r bad).2.2 = bn at HNUM HTK
            generalize lineS r bad = L at HR7 HTK HE7
            have HNE : (Value.slice A3 acc.length c3).ownBlock ≠ some g := HN6.out
            go_wp2_with fail
            go_region_law (first | (go_simp; go_at_call 108; refine (HNUM.out _ (by repeat (first | exact Below.refl _ _ | apply below_alloc | apply below_drew1 | apply pw_below_drewN))).mono ?_; rintro e w5 ⟨rfl, hs5, hk5⟩; have HK5 := Aside0.mk (show Kept wr w5 (fun k => k = g) from (Kept.of_below (by repeat (first | exact Below.refl _ _ | apply below_alloc | apply below_drew1 | apply pw_below_drewN)) _).then_ hk5 (fun _ h => .inl h)); have HS7 := Aside0.mk hs5; obtain ⟨_, _, _, _, f3c, f3f⟩ := hs5.cell; clear hs5 hk5) | (go_simp; go_at_call 107; refine (HTK.out _ (HS7.out.below (by repeat (first | exact Below.refl _ _ | apply below_alloc | apply below_drew1 | apply pw_below_drewN)))).mono ?_; rintro e w6 ⟨⟨v6, rfl, hv6⟩, hs6, hk6⟩; have HK6 := Aside0.mk (show Kept wr w6 (fun k => k = g) from (HK5.out.below (by repeat (first | exact Below.refl _ _ | apply below_alloc | apply below_drew1 | apply pw_below_drewN))).then_ hk6 (fun _ h => .inl h)); have HS8 := Aside0.mk hs6; obtain ⟨_, _, _, _, g3c, g3f⟩ := hs6.cell; have HV6 := Aside0.mk hv6; obtain ⟨A6, c6, rfl, _, _⟩ := hv6; obtain ⟨_, _, _, _, g4c, g4f⟩ := (HS8.out.below (below_alloc (Below.refl _ _) (.cells #[.slice A6 L.1.length c6] 25))).cell; clear hs6 hk6) | (refine OwnRow.append_step (R := kB.K w0) (w0 := w0) w0.heap.size (by first | rfl | simp [Region.wanted]) (.tmp 38) (.tmp 47) 22 25 (.slice none 0 0) 1 24 (by rfl) Tryz.underlying22 infoBB rfl (by decide) (by omega) (.slice A3 acc.length c3) acc L.1 [.slice A6 L.1.length c6] (by first | rfl | (simp; done) | (simp; rfl)) (by first | rfl | (simp; done) | (simp; rfl)) ?hp rfl ?h1 ?HO ?HB ?hb (by have := HAL.out; omega) ?_; (case hp => (obtain ⟨Ax, cx, ex, hx1, hx2⟩ := HV6.out; exact ⟨Ax, cx, by rw [ex], hx1, hx2⟩)); (case h1 => intro u hu; rw [List.mem_singleton.1 hu]; rfl); (case HO => exact Ls.kept HL6.out (HK6.out.below (by repeat (first | exact Below.refl _ _ | apply below_alloc | apply below_drew1 | apply pw_below_drewN))) HNE); (case HB => exact below_step HS8.out.2.1 (by repeat (first | exact Below.refl _ _ | apply below_alloc | apply below_drew1 | apply pw_below_drewN))); (case hb => exact (below_step HS8.out.2.1 (by repeat (first | exact Below.refl _ _ | apply below_alloc | apply below_drew1 | apply pw_below_drewN))).size); intro v9 w9 hO9 hB9 hg9 hat9; obtain ⟨A9, c9, rfl, _⟩ := OwnRow.slice_ hO9; have HS9 := Aside0.mk (St.grown (HS8.out.below (by repeat (first | exact Below.refl _ _ | apply below_alloc | apply below_drew1 | apply pw_below_drewN))) hg9 HNE hB9); have HO9 := Aside0.mk hO9; have HA9 := Aside0.mk hat9; have HX9 := Aside0.mk hg9.size; obtain ⟨_, _, _, _, i3c, i3f⟩ := HS9.out.cell; clear hO9 hB9 hg9 hat9))
            all_goals
              go_wp2
              go_roundg (n - (j + 1))
              case measure => omega
              case rel =>
                have HN9 : (Value.slice A9 (acc ++ [L.1]).length c9).ownBlock ≠ some g := by
                  rcases HA9.out with h | ⟨b', h, hb'⟩
                  · rw [h]; exact HNE
                  · rw [h]
                    intro e
                    injection e with e
                    have h1 := HS8.out.lt
                    have h2 : w6.heap.size ≤ b' := hb'
                    omega
                refine ⟨j + 1, acc ++ [L.1], L.2.1, L.2.2, A9, c9, by omega, by omega, by go_num, by rw [List.length_append, HAL.out]; rfl, ⟨?_⟩, ⟨?_⟩, ⟨HN9⟩, HR7, HE7⟩
                · have h1 := HS9.out.put3 (.slice A9 (acc ++ [L.1]).length c9)
                  rw [List.length_append] at h1 ⊢
                  exact h1
                · have h1 := Ls.kept HO9.out (kept_set w9 g 3 (.slice A9 (acc ++ [L.1]).length c9)) HN9
                  rw [List.length_append] at h1 ⊢
                  exact h1
          · have hltz : ¬ (j : Int) < (n : Int) := by omega
            obtain rfl : j = n := by omega
            cases bad with
            | true =>
              go_wp2
              go_ret
              refine ⟨?_, HS6.out.2.1⟩
              unfold Found
              rw [HI2.out, HR6.out.2 (by simp)]
              exact rfl
            | false =>
              have hr := HR6.out.1 rfl
              rw [Nat.sub_self] at hr
              have e0 : rdLines 5 0 r = some ([], r) := rfl
              rw [e0, Option.map_some, List.append_nil] at hr
              have HR8 := Aside0.mk (show implP b = some ((N1.1 : Int), acc) from by rw [HI2.out, hr]; rfl)
              clear hr e0
              have hK : HelpBB.tBB.K wr acc (.slice A3 acc.length c3) := by
                obtain ⟨A', c', e', hl', hR'⟩ := OwnRow.reads HL6.out
                exact ⟨A', c', e', hl', ReadsRow.imp_ hR' (Below.refl _ _) (fun p c h => kB.K_below HS6.out.2.1 h)⟩
              have HK := Aside0.mk hK
              clear hK
              go_wp2
              go_ret
              refine ⟨?_, HS6.out.2.1⟩
              unfold Found
              rw [HR8.out]
              exact ⟨rfl, r, _, HS6.out, HK.out⟩
end Go.Proofs.YtmgmdnmfalepkaaGreat.DecB

namespace Go.Proofs.YtmgmdnmfalepkaaGreat.EncB
open Go.RowKit Go.Proofs.YtmgmdnmfalepkaaGreatW.PrintWords Go.Proofs.YtmgmdnmfalepkaaGreatW.PrintMore Go.Proofs.YtmgmdnmfalepkaaGreat.Kit Go.Proofs.YtmgmdnmfalepkaaGreat.PKit Go.Proofs.YtmgmdnmfalepkaaGreat.Ty Go.Proofs.YtmgmdnmfalepkaaGreat.PSeg Go.Proofs.YtmgmdnmfalepkaaGreat.PEnc Go.Proofs.YtmgmdnmfalepkaaGreat.Build Go.Proofs.YtmgmdnmfalepkaaGreat.EncA Go.Proofs.YtmgmdnmfalepkaaGreat.HelpBB
set_option linter.unusedVariables false
theorem nums1 (a : Nat) : EncA.nums [a] = varint a := by simp [EncA.nums]
theorem nums2 (a b : Nat) : EncA.nums [a, b] = varint a ++ varint b := by simp [EncA.nums]
def lastK (K : List Int) (j : Nat) : Int := if j = 0 then 0 else K.getD (j - 1) 0
def lastP (b : Int) (P : List Int) (i : Nat) : Int := if i = 0 then b else P.getD (i - 1) 0
theorem gap_last (K : List Int) (j : Nat) : gap K j = K.getD j 0 - lastK K j := by
  unfold gap lastK
  by_cases h : j = 0
  · subst h; rw [if_pos rfl, if_pos rfl]; omega
  · rw [if_neg h, if_neg h]
theorem del_last (b : Int) (P : List Int) (i : Nat) : del b P i = P.getD i 0 - lastP b P i := by
  unfold del lastP
  by_cases h : i = 0
  · subst h; rw [if_pos rfl, if_pos rfl]
  · rw [if_neg h, if_neg h]
theorem Enc.below {w0 w : World} {ge : Nat} {No : Nat → Prop} {o : List Int} (h : Enc w0 w ge No o) : Below w0.heap.size w0 w := h.2.1
theorem one_number (ge : Nat) (x : Int) (a : Nat) (o : List Int) (w0 w : World) (h : Enc w0 w ge (fun _ => False) o) (hx : x = (a : Int)) (ha : a < 4611686018427387904) (ho : o.length ≤ 1099511627776) :
    Calls Tryz.prog 96 #[.pointer (some ⟨ge, 0, none⟩), .slice (some ⟨w.heap.size, 0, none⟩) 1 1] (w.alloc (.cells #[.int .i64 x] 3)) fun e w' => e = .returned (.tuple #[]) ∧ Enc w0 w' ge (fun _ => False) (o ++ varint a) := by
  subst hx
  obtain ⟨h1, h2⟩ := h.list (.cells #[.int .i64 (a : Int)] 3)
  refine (numbers_calls ge w.heap.size o [a] w0 _ h1 ((heap_alloc_new w _).trans rfl) h2 (by simpa using ha) (by simp) ho).mono ?_
  rintro e w' ⟨rfl, h3⟩
  rw [nums1] at h3
  exact ⟨rfl, h3.mono (fun _ h => h.elim)⟩
theorem two_numbers (ge : Nat) (x y : Int) (a b : Nat) (o : List Int) (w0 w : World) (h : Enc w0 w ge (fun _ => False) o) (hx : x = (a : Int)) (hy : y = (b : Int)) (ha : a < 4611686018427387904) (hb : b < 4611686018427387904) (ho : o.length ≤ 1099511627776) :
    Calls Tryz.prog 96 #[.pointer (some ⟨ge, 0, none⟩), .slice (some ⟨w.heap.size, 0, none⟩) 2 2] (w.alloc (.cells #[.int .i64 x, .int .i64 y] 3)) fun e w' => e = .returned (.tuple #[]) ∧ Enc w0 w' ge (fun _ => False) (o ++ (varint a ++ varint b)) := by
  subst hx hy
  obtain ⟨h1, h2⟩ := h.list (.cells #[.int .i64 (a : Int), .int .i64 (b : Int)] 3)
  refine (numbers_calls ge w.heap.size o [a, b] w0 _ h1 ((heap_alloc_new w _).trans rfl) h2 (by simpa using ⟨ha, hb⟩) (by simp) ho).mono ?_
  rintro e w' ⟨rfl, h3⟩
  rw [nums2] at h3
  exact ⟨rfl, h3.mono (fun _ h => h.elim)⟩
theorem four_row (W : World) (g : Nat) (x1 x2 x3 x4 : Int) (h : W.heap[g]? = some (.cells #[.int .u8 x1, .int .u8 x2, .int .u8 x3, .int .u8 x4] 5 (0, 0))) : Kd.C (Kd.int .u8) W (some ⟨g, 0, none⟩) 4 [x1, x2, x3, x4] := by
  obtain ⟨A, c, e, _, hC⟩ := Kd.R_reads (Kd.R_of_own (xs := [x1, x2, x3, x4]) (h1 := fun _ => rfl) (enc := Value.int .u8) (ok := fun _ => True) (base := 0) (w := W) (e := 5) (v := .slice (some ⟨g, 0, none⟩) 4 4) ⟨rfl, .inr ⟨g, 4, _, rfl, Nat.zero_le _, h, by simp, by simp [maxLen], rfl, rfl⟩⟩ (fun _ _ => trivial))
  obtain rfl : some ⟨g, 0, none⟩ = A := by injection e
  exact hC
set_option maxRecDepth 100000 in
set_option maxHeartbeats 4000000 in
theorem encoded_calls (bn : Nat) (ls : List (List Int)) (K : List Int) (Ps : List (List Int)) (A1 A2 A3 : Option Addr) (c1 c2 c3 : Nat) (w : World) (h1 : HelpBB.tBB.K w ls (.slice A1 ls.length c1)) (h2 : HelpI.tI.K w K (.slice A2 K.length c2)) (h3 : HelpII.tII.K w Ps (.slice A3 Ps.length c3))
    (hok : EncOk ((bn : Int), ls, K, Ps)) (hby : Bytes ls) :
    Calls Tryz.prog 75 #[.agg #[.int .i64 (bn : Int), .slice A1 ls.length c1, .slice A2 K.length c2, .slice A3 Ps.length c3]] w fun e w' => ∃ v', e = .returned v' ∧ HelpB.tB.M w' w.heap.size (fun _ => True) (code ((bn : Int), ls, K, Ps)) v' ∧ Grew w w' := by
  have huI := Tryz.underlying59
  have huE := Tryz.underlying120
  have hb1 : (bn : Int) ≤ 1000 := hok.b1
  have hl1 : ls.length ≤ 1000 := hok.l1
  have ht1 : totalB ls ≤ 20000 := hok.t1
  have hk1 : K.length ≤ 20000 := hok.k1
  have HPK := Aside0.mk (show Ps.length = K.length from hok.pk)
  obtain ⟨B1, d1, e1, hc1, hr1⟩ := h1
  obtain ⟨rfl, rfl⟩ : A1 = B1 ∧ c1 = d1 := by injection e1 with q1 q2 q3; exact ⟨q1, q3⟩
  have R1 := Aside0.mk hr1
  clear hc1 hr1 e1
  obtain ⟨B2, d2, e2, hc2, hr2⟩ := h2
  obtain ⟨rfl, rfl⟩ : A2 = B2 ∧ c2 = d2 := by injection e2 with q1 q2 q3; exact ⟨q1, q3⟩
  have R2 := Aside0.mk hr2
  clear hc2 hr2 e2
  obtain ⟨B3, d3, e3, hc3, hr3⟩ := h3
  obtain ⟨rfl, rfl⟩ : A3 = B3 ∧ c3 = d3 := by injection e3 with q1 q2 q3; exact ⟨q1, q3⟩
  have R3 := Aside0.mk hr3
  clear hc3 hr3 e3
  have HOK := Aside0.mk hok
  have HBY := Aside0.mk hby
  clear hok hby
  have HHL := Aside0.mk (head_len (b := (bn : Int)) (ls := ls) hb1 hl1)
  go_enter Tryz.func75, Tryz.ntmps75
  go_wp2_with (first | ((with_reducible refine gate_dst (N := 1) rfl ?_); refine box_event ?hg (N := 1) ?hd (cs := #[.int .i64 (bn : Int), .slice A1 ls.length c1, .slice A2 K.length c2, .slice A3 Ps.length c3]) (t := 59) ?hr ?_; (case hd => rfl); (case hg => rfl); (case hr => first | (go_simp; done) | (go_simp; rfl)); intro gs hg_ w1 hbx hbb; have BKs := Aside0.mk hbx; have HB := Aside0.mk hbb; have GS := Aside0.mk (show w.heap.size ≤ gs from Nat.le_of_eq hg_.symm); clear hg_; have hc0 : w1.cell? ⟨gs, 0, none⟩ = some (.int .i64 (bn : Int)) := (blk_cell hbx 0).trans rfl; have fhc0 := blk_frozen hbx 0; have hc1 : w1.cell? ⟨gs, 1, none⟩ = some (.slice A1 ls.length c1) := (blk_cell hbx 1).trans rfl; have fhc1 := blk_frozen hbx 1; have hc2 : w1.cell? ⟨gs, 2, none⟩ = some (.slice A2 K.length c2) := (blk_cell hbx 2).trans rfl; have fhc2 := blk_frozen hbx 2; have hc3 : w1.cell? ⟨gs, 3, none⟩ = some (.slice A3 Ps.length c3) := (blk_cell hbx 3).trans rfl; have fhc3 := blk_frozen hbx 3; clear hbx hbb) | ((with_reducible refine gate_dst (N := 15) rfl ?_); refine box_event ?hg (N := 15) ?hd (cs := #[.slice (some ⟨w1.heap.size, 0, none⟩) 2 2]) (t := 120) ?hr ?_; (case hd => rfl); (case hg => rfl); (case hr => first | (go_simp; done) | (go_simp; rfl)); intro ge hg_ w3 hbx hbb; have BKe := Aside0.mk hbx; have HB3 := Aside0.mk hbb; have GE := Aside0.mk (show w1.heap.size + 1 ≤ ge from by rw [hg_]; simp); clear hg_; have hz0 := blk_below (w := w1.alloc (.cells #[.int .u8 84, .int .u8 71] 5)) (g := gs) (blk_alloc BKs.out _) hbb; have hd0 : w3.cell? ⟨gs, 0, none⟩ = some (.int .i64 (bn : Int)) := (blk_cell hz0 0).trans rfl; have fhd0 := blk_frozen hz0 0; have hd1 : w3.cell? ⟨gs, 1, none⟩ = some (.slice A1 ls.length c1) := (blk_cell hz0 1).trans rfl; have fhd1 := blk_frozen hz0 1; have hd2 : w3.cell? ⟨gs, 2, none⟩ = some (.slice A2 K.length c2) := (blk_cell hz0 2).trans rfl; have fhd2 := blk_frozen hz0 2; have hd3 : w3.cell? ⟨gs, 3, none⟩ = some (.slice A3 Ps.length c3) := (blk_cell hz0 3).trans rfl; have fhd3 := blk_frozen hz0 3; clear hbx hbb))
  have HG := Aside0.mk (show w.heap.size ≤ w1.heap.size from HB.out.size)
  have hrow : w3.heap[w1.heap.size]? = some (.cells #[.int .u8 84, .int .u8 71] 5 (0, 0)) := blk_below (heap_alloc_new w1 _) HB3.out
  have hE0 : Enc w1 w3 ge (fun _ => False) [84, 71] := by
    have hge := GE.out
    exact ⟨by omega, grew_trans (below_alloc (Below.refl _ _) _) HB3.out, some ⟨w1.heap.size, 0, none⟩, 2, BKe.out, Kd.R_of_own (xs := [(84 : Int), 71]) ⟨rfl, .inr ⟨w1.heap.size, 2, #[.int .u8 84, .int .u8 71], rfl, Nat.le_refl _, hrow, by simp, by simp [maxLen], rfl, rfl⟩⟩ (fun k hk => ⟨fun e => by have e1 : w1.heap.size = k := (by simpa [Value.ownBlock] using hk); omega, id⟩)⟩
  clear hrow
  refine (two_numbers ge _ _ bn ls.length [84, 71] w1 w3 hE0 rfl rfl (by omega) (by omega) (by simp)).mono ?_
  rintro e w4 ⟨rfl, hE4⟩
  have eh : [(84 : Int), 71] ++ (varint bn ++ varint ls.length) = head (bn : Int) ls := by simp [head]
  rw [eh] at hE4
  clear eh hE0
  have hbs := blk_below (g := gs) BKs.out (Enc.below hE4)
  have h40 : w4.cell? ⟨gs, 0, none⟩ = some (.int .i64 (bn : Int)) := (blk_cell hbs 0).trans rfl; have fh40 := blk_frozen hbs 0; have h41 : w4.cell? ⟨gs, 1, none⟩ = some (.slice A1 ls.length c1) := (blk_cell hbs 1).trans rfl; have fh41 := blk_frozen hbs 1; have h42 : w4.cell? ⟨gs, 2, none⟩ = some (.slice A2 K.length c2) := (blk_cell hbs 2).trans rfl; have fh42 := blk_frozen hbs 2; have h43 : w4.cell? ⟨gs, 3, none⟩ = some (.slice A3 Ps.length c3) := (blk_cell hbs 3).trans rfl; have fh43 := blk_frozen hbs 3
  clear hbs
  go_wp2
  go_loopg [27] ls.length (fun gg s27 wr => ∃ i : Nat, i ≤ ls.length ∧ ls.length - i ≤ gg ∧ s27 = .int .i64 i ∧ Aside0 (Enc w1 wr ge (fun _ => False) (head (bn : Int) ls ++ flat (line ls) i)))
  case atStart => exact ⟨0, by omega, by omega, rfl, ⟨by have e : flat (line ls) 0 = [] := rfl; rw [e, List.append_nil]; exact hE4⟩⟩
  case round =>
    clear hE4
    obtain ⟨i, hi, hg, rfl, HE⟩ := hrel
    have HW := Aside0.mk (grew_trans HB.out (Enc.below HE.out))
    by_cases hlt : i < ls.length
    · have hltz : (i : Int) < (ls.length : Int) := by omega
      obtain ⟨ad, u, rfl, hcell0, hK⟩ := get_one (d := kB) rfl R1.out [] i hlt
      obtain ⟨A', c', e', hc', hr'⟩ := hK
      obtain rfl : u = .slice A' (ls.getD i []).length c' := by injection e'
      have hcell : wr.cell? (ad.add i) = some (.slice A' (ls.getD i []).length c') := (HW.out.cell (World.block_lt_of_cell? w _ hcell0)).trans hcell0
      have HL := Aside0.mk (Kd.C_below hr' HB.out)
      have hgl := getD_len ls i
      have hll := lines_len HOK.out i (by show i ≤ ls.length; omega)
      have hll' : (head (bn : Int) ls ++ flat (line ls) i).length ≤ 1099511627776 := by have h1 := HHL.out; have h2 : (flat (line ls) i).length ≤ 20010000 := hll; rw [List.length_append]; omega
      have hnext : head (bn : Int) ls ++ flat (line ls) (i + 1) = head (bn : Int) ls ++ flat (line ls) i ++ (varint (ls.getD i []).length ++ ls.getD i []) := by rw [flat_succ, ← List.append_assoc]; rfl
      have HNX := Aside0.mk hnext
      clear hr' e' hcell0 hll hnext
      generalize hx : ls.getD i [] = l at hcell HL hgl HNX hc'
      clear hx
      have hby := bytes_calls ge _ A' c' l w1 wr HE.out HL.out (by omega) hll'
      go_wp2_with (go_at_call 97; refine hby.mono ?_; rintro e w5 ⟨rfl, hE5⟩)
      go_roundg (ls.length - (i + 1))
      case measure => omega
      case rel => exact ⟨i + 1, by omega, by omega, by go_num, ⟨by rw [HNX.out]; exact hE5⟩⟩
    · have hltz : ¬ (i : Int) < (ls.length : Int) := by omega
      obtain rfl : i = ls.length := by omega
      rename World => w6
      have hll := lines_len HOK.out ls.length (Nat.le_refl _)
      have HLL := Aside0.mk (show (head (bn : Int) ls ++ flat (line ls) ls.length).length ≤ 20010020 from by have h1 := HHL.out; have h2 : (flat (line ls) ls.length).length ≤ 20010000 := hll; rw [List.length_append]; omega)
      clear hll
      have hbs := blk_below (g := gs) BKs.out (Enc.below HE.out)
      have h60 : w6.cell? ⟨gs, 0, none⟩ = some (.int .i64 (bn : Int)) := (blk_cell hbs 0).trans rfl; have fh60 := blk_frozen hbs 0; have h61 : w6.cell? ⟨gs, 1, none⟩ = some (.slice A1 ls.length c1) := (blk_cell hbs 1).trans rfl; have fh61 := blk_frozen hbs 1; have h62 : w6.cell? ⟨gs, 2, none⟩ = some (.slice A2 K.length c2) := (blk_cell hbs 2).trans rfl; have fh62 := blk_frozen hbs 2; have h63 : w6.cell? ⟨gs, 3, none⟩ = some (.slice A3 Ps.length c3) := (blk_cell hbs 3).trans rfl; have fh63 := blk_frozen hbs 3
      clear hbs
      go_wp2_with (go_at_call 96; refine (one_number ge _ K.length _ w1 w6 HE.out rfl (by omega) (by have := HLL.out; omega)).mono ?_; rintro e w7 ⟨rfl, hE7⟩; have hbs := blk_below (g := gs) BKs.out (Enc.below hE7); have h70 : w7.cell? ⟨gs, 0, none⟩ = some (.int .i64 (bn : Int)) := (blk_cell hbs 0).trans rfl; have fh70 := blk_frozen hbs 0; have h71 : w7.cell? ⟨gs, 1, none⟩ = some (.slice A1 ls.length c1) := (blk_cell hbs 1).trans rfl; have fh71 := blk_frozen hbs 1; have h72 : w7.cell? ⟨gs, 2, none⟩ = some (.slice A2 K.length c2) := (blk_cell hbs 2).trans rfl; have fh72 := blk_frozen hbs 2; have h73 : w7.cell? ⟨gs, 3, none⟩ = some (.slice A3 Ps.length c3) := (blk_cell hbs 3).trans rfl; have fh73 := blk_frozen hbs 3; clear hbs)
      have hOl : (head (bn : Int) ls ++ flat (line ls) ls.length ++ varint K.length).length ≤ 20010040 := by have h1 := HLL.out; have h2 := varint_len10 (n := K.length) (by omega); rw [List.length_append]; omega
      have HCODE := Aside0.mk (show body ((bn : Int), ls, K, Ps) = head (bn : Int) ls ++ flat (line ls) ls.length ++ varint K.length ++ flat (grp (bn : Int) K Ps) K.length from rfl)
      generalize hO : head (bn : Int) ls ++ flat (line ls) ls.length ++ varint K.length = O at hE7 hOl HCODE
      clear hO
      go_loopg [6, 44] K.length (fun gg s6 s44 wr => ∃ j : Nat, j ≤ K.length ∧ K.length - j ≤ gg ∧ s6 = .int .i64 (lastK K j) ∧ s44 = .int .i64 j ∧ Aside0 (Enc w1 wr ge (fun _ => False) (O ++ flat (grp (bn : Int) K Ps) j)))
      case atStart => exact ⟨0, by omega, by omega, rfl, rfl, ⟨by have e : flat (grp (bn : Int) K Ps) 0 = [] := rfl; rw [e, List.append_nil]; exact hE7⟩⟩
      case round =>
        clear hE7 HE HW
        rename World => w8
        obtain ⟨j, hj, hg, rfl, rfl, HE⟩ := hrel
        have HW := Aside0.mk (grew_trans HB.out (Enc.below HE.out))
        have hgr := grps_len HOK.out j (by show j ≤ K.length; omega)
        have hGl : (O ++ flat (grp (bn : Int) K Ps) j).length ≤ 300000000 := by have h2 : (flat (grp (bn : Int) K Ps) j).length ≤ 180360000 := hgr; rw [List.length_append]; omega
        clear hgr
        by_cases hlt : j < K.length
        · have hltz : (j : Int) < (K.length : Int) := by omega
          have hltp : j < Ps.length := by have := HPK.out; omega
          have hltpz : (j : Int) < (Ps.length : Int) := by omega
          obtain ⟨ad2, u2, rfl, hc20, hK2⟩ := get_one (d := Kd.int .i64) rfl R2.out 0 j hlt
          obtain rfl : u2 = .int .i64 (K.getD j 0) := by have h : [u2] = [Value.int .i64 (K.getD j 0)] := hK2; injection h
          have hc2 : w8.cell? (ad2.add j) = some (.int .i64 (K.getD j 0)) := (HW.out.cell (World.block_lt_of_cell? w _ hc20)).trans hc20
          obtain ⟨ad3, u3, rfl, hc30, hK3⟩ := get_one (d := HelpII.kI) rfl R3.out [] j hltp
          obtain ⟨A', c', e', hc', hr'⟩ := hK3
          obtain rfl : u3 = .slice A' (Ps.getD j []).length c' := by injection e'
          have hc3 : w8.cell? (ad3.add j) = some (.slice A' (Ps.getD j []).length c') := (HW.out.cell (World.block_lt_of_cell? w _ hc30)).trans hc30
          have HC3 := Aside0.mk hc30
          have HLP := Aside0.mk hr'
          have hp1 : (Ps.getD j []).length ≤ 1000 := HOK.out.p1 j
          obtain ⟨g0, g1⟩ := HOK.out.g1 j hlt
          have g0 : 0 ≤ gap K j := g0
          have g1 : gap K j ≤ 16777216 := g1
          have HD := Aside0.mk (show ∀ i, i < (Ps.getD j []).length → 0 ≤ del (bn : Int) (Ps.getD j []) i ∧ del (bn : Int) (Ps.getD j []) i ≤ 1000 from fun i hi => HOK.out.d1 j i hlt hi)
          have HGRP := Aside0.mk (show O ++ flat (grp (bn : Int) K Ps) (j + 1) = O ++ flat (grp (bn : Int) K Ps) j ++ (varint (gap K j).toNat ++ varint (Ps.getD j []).length) ++ dels (bn : Int) (Ps.getD j []) (Ps.getD j []).length from by rw [flat_succ, ← List.append_assoc, ← List.append_assoc]; show _ ++ (varint _ ++ varint _ ++ dels _ _ _) = _; simp only [List.append_assoc])
          have HLK := Aside0.mk (show lastK K (j + 1) = K.getD j 0 from by simp [lastK])
          have hgl := gap_last K j
          clear hr' e' hc' hc20 hc30
          obtain ⟨g, hgn⟩ : ∃ g : Nat, gap K j = (g : Int) := ⟨(gap K j).toNat, by omega⟩
          rw [hgn] at g0 g1 hgl HGRP
          rw [Int.toNat_natCast] at HGRP
          clear hgn
          generalize hO2 : O ++ flat (grp (bn : Int) K Ps) j = O2 at HE hGl HGRP
          clear hO2
          generalize hkj : K.getD j 0 = kj at hc2 hgl HLK
          clear hkj
          have hgl2 : 0 ≤ kj - lastK K j ∧ kj - lastK K j ≤ 16777216 := by omega
          generalize hlk : lastK K j = lk at hgl hgl2
          clear hlk
          generalize hP : Ps.getD j [] = P at hc3 HC3 HLP hp1 HD HGRP
          clear hP
          have h2n := two_numbers ge (kj - lk) (P.length : Int) g P.length O2 w1 w8 HE.out (by omega) rfl (by omega) (by omega) (by omega)
          have hbs := blk_below (g := gs) BKs.out (Enc.below HE.out)
          have h80 : w8.cell? ⟨gs, 0, none⟩ = some (.int .i64 (bn : Int)) := (blk_cell hbs 0).trans rfl; have fh80 := blk_frozen hbs 0; have h81 : w8.cell? ⟨gs, 1, none⟩ = some (.slice A1 ls.length c1) := (blk_cell hbs 1).trans rfl; have fh81 := blk_frozen hbs 1; have h82 : w8.cell? ⟨gs, 2, none⟩ = some (.slice (some ad2) K.length c2) := (blk_cell hbs 2).trans rfl; have fh82 := blk_frozen hbs 2; have h83 : w8.cell? ⟨gs, 3, none⟩ = some (.slice (some ad3) Ps.length c3) := (blk_cell hbs 3).trans rfl; have fh83 := blk_frozen hbs 3
          clear hbs
          go_wp2_with (go_at_call 96; refine h2n.mono ?_; rintro e w9 ⟨rfl, hE9⟩; have hbs := blk_below (g := gs) BKs.out (Enc.below hE9); have h90 : w9.cell? ⟨gs, 0, none⟩ = some (.int .i64 (bn : Int)) := (blk_cell hbs 0).trans rfl; have fh90 := blk_frozen hbs 0; have h91 : w9.cell? ⟨gs, 1, none⟩ = some (.slice A1 ls.length c1) := (blk_cell hbs 1).trans rfl; have fh91 := blk_frozen hbs 1; have h92 : w9.cell? ⟨gs, 2, none⟩ = some (.slice (some ad2) K.length c2) := (blk_cell hbs 2).trans rfl; have fh92 := blk_frozen hbs 2; have h93 : w9.cell? ⟨gs, 3, none⟩ = some (.slice (some ad3) Ps.length c3) := (blk_cell hbs 3).trans rfl; have fh93 := blk_frozen hbs 3; clear hbs; have hc9 : w9.cell? (ad3.add j) = some (.slice A' P.length c') := ((grew_trans HB.out (Enc.below hE9)).cell (World.block_lt_of_cell? w _ HC3.out)).trans HC3.out)
          have hl9 : (O2 ++ (varint g ++ varint P.length)).length ≤ 300000020 := by have h1 := varint_len10 (n := g) (by omega); have h2 := varint_len10 (n := P.length) (by omega); simp only [List.length_append]; omega
          generalize hO3 : O2 ++ (varint g ++ varint P.length) = O3 at hE9 hl9 HGRP
          clear hO3
          go_loopg [9, 70] P.length (fun gg s9 s70 wr => ∃ i : Nat, i ≤ P.length ∧ P.length - i ≤ gg ∧ s9 = .int .i64 (lastP (bn : Int) P i) ∧ s70 = .int .i64 i ∧ Aside0 (Enc w1 wr ge (fun _ => False) (O3 ++ dels (bn : Int) P i)))
          case atStart => exact ⟨0, by omega, by omega, rfl, rfl, ⟨by have e : dels (bn : Int) P 0 = [] := rfl; rw [e, List.append_nil]; exact hE9⟩⟩
          case round =>
            clear hE9
            rename World => wi
            obtain ⟨i, hi, hgi, rfl, rfl, HEi⟩ := hrel
            by_cases hli : i < P.length
            · have hliz : (i : Int) < (P.length : Int) := by omega
              obtain ⟨ad4, u4, rfl, hc40, hK4⟩ := get_one (d := Kd.int .i64) rfl HLP.out 0 i hli
              obtain rfl : u4 = .int .i64 (P.getD i 0) := by have h : [u4] = [Value.int .i64 (P.getD i 0)] := hK4; injection h
              have hc4 : wi.cell? (ad4.add i) = some (.int .i64 (P.getD i 0)) := ((grew_trans HB.out (Enc.below HEi.out)).cell (World.block_lt_of_cell? w _ hc40)).trans hc40
              obtain ⟨d0, d1⟩ := HD.out i hli
              have hdl := del_last (bn : Int) P i
              have hdn : dels (bn : Int) P (i + 1) = dels (bn : Int) P i ++ varint (del (bn : Int) P i).toNat := flat_succ _ _
              have HLP2 := Aside0.mk (show lastP (bn : Int) P (i + 1) = P.getD i 0 from by simp [lastP])
              have hdll := dels_len (b := (bn : Int)) (P := P) (n := i) (fun q hq => (HD.out q (by omega)).2)
              obtain ⟨g', hgn'⟩ : ∃ g : Nat, del (bn : Int) P i = (g : Int) := ⟨(del (bn : Int) P i).toNat, by omega⟩
              rw [hgn'] at d0 d1 hdl hdn
              rw [Int.toNat_natCast] at hdn
              have HDN := Aside0.mk hdn
              clear hdn hgn' hc40
              have hdl2 : 0 ≤ P.getD i 0 - lastP (bn : Int) P i ∧ P.getD i 0 - lastP (bn : Int) P i ≤ 1000 := by omega
              generalize hxi : P.getD i 0 = xi at hc4 hdl hdl2 HLP2
              clear hxi
              generalize hlp : lastP (bn : Int) P i = lp at hdl hdl2
              clear hlp
              have h1n := one_number ge (xi - lp) g' (O3 ++ dels (bn : Int) P i) w1 wi HEi.out (by omega) (by omega) (by rw [List.length_append]; omega)
              go_wp2_with (go_at_call 96; refine h1n.mono ?_; rintro e w9' ⟨rfl, hE9⟩)
              go_roundg (P.length - (i + 1))
              case measure => omega
              case rel => exact ⟨i + 1, by omega, by omega, by rw [HLP2.out], by go_num, ⟨by rw [HDN.out, ← List.append_assoc]; exact hE9⟩⟩
            · have hliz : ¬ (i : Int) < (P.length : Int) := by omega
              obtain rfl : i = P.length := by omega
              go_wp2
              go_roundg (K.length - (j + 1))
              case measure => omega
              case rel => exact ⟨j + 1, by omega, by omega, by rw [HLK.out], by go_num, ⟨by rw [HGRP.out]; exact HEi.out⟩⟩
        · have hltz : ¬ (j : Int) < (K.length : Int) := by omega
          obtain rfl : j = K.length := by omega
          have hcode := HCODE.out
          have hEl := HE.out
          rw [← hcode] at hEl hGl
          clear hcode HCODE HE
          have hbyt := body_bytes ((bn : Int), ls, K, Ps) HBY.out
          have HCD := Aside0.mk (show code ((bn : Int), ls, K, Ps) = body ((bn : Int), ls, K, Ps) ++ four (sum (body ((bn : Int), ls, K, Ps))) from rfl)
          generalize hbd : body ((bn : Int), ls, K, Ps) = bd at hEl hGl hbyt HCD
          clear hbd
          obtain ⟨hge0, hBe, Ao, co, hbe, hRe⟩ := hEl
          obtain ⟨Ax, cx, ex, hcx, hCx⟩ := Kd.R_reads hRe
          obtain ⟨rfl, rfl⟩ : Ao = Ax ∧ co = cx := by injection ex with q1 q2 q3; exact ⟨q1, q3⟩
          have hsum := sum_calls Ao co bd w8 hCx hbyt (by omega)
          have hcg : w8.cell? ⟨ge, 0, none⟩ = some (.slice Ao bd.length co) := (blk_cell hbe 0).trans rfl
          have hfg := blk_frozen hbe 0
          have HRE := Aside0.mk (Kd.R_mono hRe (ok' := fun _ => True) (fun _ _ => trivial))
          have HBE := Aside0.mk hBe
          have HSL := Aside0.mk (sum_lt bd)
          clear hCx hRe hBe hbe hbyt ex hcx
          generalize hss : sum bd = hs at hsum HCD HSL
          clear hss
          go_wp2_with (first | (go_at_call 98; refine hsum.mono ?_; rintro e w' ⟨rfl, hw_⟩; subst w') | (at_builtin; refine Kd.R_append_rows (Kd.int .u8) (Rr := (Kd.int .u8).K (w8.alloc _)) (w0 := w1) w1.heap.size rfl (.tmp 91) (.tmp 103) 25 5 (.int .u8 0) 1 rfl Tryz.underlying25 infoB rfl (by decide) (by decide) (.slice Ao bd.length co) bd _ (some ⟨w8.heap.size, 0, none⟩) 4 4 (fun _ => True) (fun _ => False) rfl rfl (Kd.R_alloc HRE.out _) (four_row _ w8.heap.size _ _ _ _ (heap_alloc_new w8 _)) (fun x cs h => h) (fun _ h => h.elim) (fun _ _ => trivial) (below_alloc HBE.out _) (by have := HBE.out.size; simp; omega) (by omega) ?_; rintro v1 w11 hR1 hB1 hg1 hat1))
          go_ret
          refine ⟨v1, rfl, ?_, grew_trans HB.out hB1⟩
          rw [HCD.out]
          have hsl := HSL.out
          have hR2 : Kd.R (Kd.int .u8) 5 w11 w1.heap.size (fun _ => True) v1 (bd ++ four hs) := by
            refine cast (congrArg (fun q => Kd.R (Kd.int .u8) 5 w11 w1.heap.size (fun _ => True) v1 (bd ++ q)) ?_) hR1
            unfold four
            congr 1 <;> first | rfl | omega | skip
          exact Kd.R_lower hR2 HG.out
end Go.Proofs.YtmgmdnmfalepkaaGreat.EncB

namespace Go.Proofs.YtmgmdnmfalepkaaGreat.SegOk
open Go.RowKit Go.Proofs.YtmgmdnmfalepkaaGreatW.PrintWords Go.Proofs.YtmgmdnmfalepkaaGreatW.PrintMore Go.Proofs.YtmgmdnmfalepkaaGreat.Kit Go.Proofs.YtmgmdnmfalepkaaGreat.PKit Go.Proofs.YtmgmdnmfalepkaaGreat.Ty Go.Proofs.YtmgmdnmfalepkaaGreat.PSeg Go.Proofs.YtmgmdnmfalepkaaGreat.PEnc Go.Proofs.YtmgmdnmfalepkaaGreat.Build Go.Proofs.YtmgmdnmfalepkaaGreat.EncA Go.Proofs.YtmgmdnmfalepkaaGreat.HelpBB
set_option linter.unusedVariables false
end Go.Proofs.YtmgmdnmfalepkaaGreat.SegOk

namespace Go.Proofs.YtmgmdnmfalepkaaGreat.Decode
open Go.RowKit Go.Proofs.YtmgmdnmfalepkaaGreatW.PrintWords Go.Proofs.YtmgmdnmfalepkaaGreatW.PrintMore Go.Proofs.YtmgmdnmfalepkaaGreat.Kit Go.Proofs.YtmgmdnmfalepkaaGreat.PKit Go.Proofs.YtmgmdnmfalepkaaGreat.Ty Go.Proofs.YtmgmdnmfalepkaaGreat.PSeg Go.Proofs.YtmgmdnmfalepkaaGreat.PEnc Go.Proofs.YtmgmdnmfalepkaaGreat.PDec Go.Proofs.YtmgmdnmfalepkaaGreat.Build Go.Proofs.YtmgmdnmfalepkaaGreat.EncB Go.Proofs.YtmgmdnmfalepkaaGreat.HelpBB Go.Proofs.YtmgmdnmfalepkaaGreat.HelpSeg Go.Proofs.YtmgmdnmfalepkaaGreat.DecA Go.Proofs.YtmgmdnmfalepkaaGreat.DecB
set_option linter.unusedVariables false
theorem dec_none {b : List Int} (h : implP b = none) : dec b = ((0, [], [], []), 5) := by
  unfold dec decBy
  rw [h]
theorem dec_bad {b : List Int} {base : Int} {ls : List (List Int)} (h : implP b = some (base, ls)) (hf : ¬ (fits base ls = true ∧ code (seg base ls) = b)) : dec b = ((0, [], [], []), 5) := by
  unfold dec decBy
  rw [h]
  exact if_neg hf
theorem dec_good {b : List Int} {base : Int} {ls : List (List Int)} (h : implP b = some (base, ls)) (hf : fits base ls = true ∧ code (seg base ls) = b) : dec b = (seg base ls, 0) := by
  unfold dec decBy
  rw [h]
  exact if_pos hf
theorem implP_some {b : List Int} {base : Int} {ls : List (List Int)} (hb : ∀ x ∈ b, 0 ≤ x ∧ x ≤ 255) (h : implP b = some (base, ls)) : 0 ≤ base ∧ base < 34359738368 ∧ ls.length ≤ 1000 ∧ ls.length + totalB ls ≤ b.length ∧ Bytes ls := by
  unfold implP at h
  split at h
  · obtain ⟨h1, h2, h3, h4, h5⟩ := rdHead_some 5 (b.drop 2) base ls (bytes_drop hb 2) h
    rw [List.length_drop] at h4
    exact ⟨h1, Int.lt_of_lt_of_le h2 (by decide), h3, by omega, h5⟩
  · cases h
theorem gen_world (P : World → Prop) (w : World) (h : ∀ W, W = w → P W) : P w := h w rfl
theorem seg_form {w : World} {b : Int} {ls : List (List Int)} {v : Value} (h : tSeg.K w (seg b ls) v) : ∃ (A1 : Option Addr) (c1 : Nat) (A2 : Option Addr) (c2 : Nat) (A3 : Option Addr) (c3 : Nat), v = .agg #[.int .i64 b, .slice A1 ls.length c1, .slice A2 (keys ls).length c2, .slice A3 (keys ls).length c3] := by
  obtain ⟨A1, c1, A2, c2, A3, c3, e⟩ := HelpSeg.form h
  refine ⟨A1, c1, A2, c2, A3, c3, ?_⟩
  have e2 : ((keys ls).map (post b ls ls.length)).length = (keys ls).length := List.length_map ..
  rw [e]
  show Value.agg #[.int .i64 b, .slice A1 ls.length c1, .slice A2 (keys ls).length c2, .slice A3 ((keys ls).map (post b ls ls.length)).length c3] = _
  rw [e2]
theorem seg_parts {w : World} {b : Int} {ls : List (List Int)} {K : List Int} {Ps : List (List Int)} {v0 v1 v2 v3 : Value} (h : tSeg.K w (b, ls, K, Ps) (.agg #[v0, v1, v2, v3])) : HelpBB.tBB.K w ls v1 ∧ HelpI.tI.K w K v2 ∧ HelpII.tII.K w Ps v3 := by
  obtain ⟨l, el, u0, r0, e0, g0, u1, r1, e1, g1, u2, r2, e2, g2, u3, e3, g3⟩ := h
  subst e3 e2 e1 e0
  injection el with el
  have el' := congrArg Array.toList el
  simp only [List.cons.injEq, and_true] at el'
  obtain ⟨rfl, rfl, rfl, rfl⟩ := el'
  exact ⟨g1, g2, g3⟩
theorem enc_seg (base : Int) (ls : List (List Int)) (D1 D2 D3 : Option Addr) (d1 d2 d3 : Nat) (W : World) (h : tSeg.K W (seg base ls) (.agg #[.int .i64 base, .slice D1 ls.length d1, .slice D2 (keys ls).length d2, .slice D3 (keys ls).length d3])) (hok : EncOk (seg base ls)) (hby : Bytes ls) (h0 : 0 ≤ base) :
    Calls Tryz.prog 75 #[.agg #[.int .i64 base, .slice D1 ls.length d1, .slice D2 (keys ls).length d2, .slice D3 (keys ls).length d3]] W fun e w' => ∃ v', e = .returned v' ∧ HelpB.tB.M w' W.heap.size (fun _ => True) (code (seg base ls)) v' ∧ Grew W w' := by
  obtain ⟨bn, rfl⟩ : ∃ n : Nat, base = (n : Int) := ⟨base.toNat, by omega⟩
  obtain ⟨k1, k2, k3⟩ := seg_parts h
  have e : ((keys ls).map (post (bn : Int) ls ls.length)).length = (keys ls).length := List.length_map ..
  have h := encoded_calls bn ls (keys ls) ((keys ls).map (post (bn : Int) ls ls.length)) D1 D2 D3 d1 d2 d3 W k1 k2 (by rw [e]; exact k3) hok hby
  rw [e] at h
  exact h
set_option maxRecDepth 100000 in
set_option maxHeartbeats 4000000 in
theorem decode_calls (A : Option Addr) (c : Nat) (b : List Int) (w : World) (hr : Kd.C (Kd.int .u8) w A b.length b) (hc : b.length ≤ c) (hb : ∀ x ∈ b, 0 ≤ x ∧ x ≤ 255) (hl : b.length ≤ 1048576) :
    Calls Tryz.prog 70 #[.slice A b.length c] w fun e w' => ∃ v, e = .returned (.tuple #[v, .int .i64 (dec b).2]) ∧ tSeg.M w' w.heap.size (fun _ => True) (dec b).1 v ∧ Grew w w' := by
  have huI := Tryz.underlying59
  have huD := Tryz.underlying114
  have huR := Tryz.underlying112
  have HR := Aside0.mk hr
  have HC := Aside0.mk hc
  have HY := Aside0.mk hb
  clear hr hc hb
  go_enter Tryz.func70, Tryz.ntmps70
  go_wp2_with (first | ((with_reducible refine gate_dst (N := 2) rfl ?_); refine box_event ?hg (N := 2) ?hd (cs := #[.int .i64 0, .slice none 0 0, .slice none 0 0, .slice none 0 0]) (t := 59) ?hr ?_; (case hd => rfl); (case hg => rfl); (case hr => first | (go_simp; done) | (go_simp; rfl)); intro g1 hg_ w1 hbx hbb; have BKg1 := Aside0.mk hbx; have GEg1 := Aside0.mk (show w.heap.size ≤ g1 from Nat.le_of_eq hg_.symm); have HBw1 := Aside0.mk hbb; clear hg_ hbb; have hg1c0 : w1.cell? ⟨g1, 0, none⟩ = some (.int .i64 0) := (blk_cell hbx 0).trans rfl; have hg1f0 := blk_frozen hbx 0; have hg1c1 : w1.cell? ⟨g1, 1, none⟩ = some (.slice none 0 0) := (blk_cell hbx 1).trans rfl; have hg1f1 := blk_frozen hbx 1; have hg1c2 : w1.cell? ⟨g1, 2, none⟩ = some (.slice none 0 0) := (blk_cell hbx 2).trans rfl; have hg1f2 := blk_frozen hbx 2; have hg1c3 : w1.cell? ⟨g1, 3, none⟩ = some (.slice none 0 0) := (blk_cell hbx 3).trans rfl; have hg1f3 := blk_frozen hbx 3; clear hbx) | ((with_reducible refine gate_dst (N := 10) rfl ?_); refine box_event ?hg (N := 10) ?hd (cs := #[.slice A b.length c, .bool false, .int .i64 0, .slice none 0 0]) (t := 114) ?hr ?_; (case hd => rfl); (case hg => rfl); (case hr => first | (go_simp; done) | (go_simp; rfl)); intro gd hg_ w2 hbx hbb; have BKgd := Aside0.mk hbx; have GEgd := Aside0.mk (show w1.heap.size ≤ gd from Nat.le_of_eq hg_.symm); have HBw2 := Aside0.mk hbb; clear hg_ hbb; have hgdc0 : w2.cell? ⟨gd, 0, none⟩ = some (.slice A b.length c) := (blk_cell hbx 0).trans rfl; have hgdf0 := blk_frozen hbx 0; have hgdc1 : w2.cell? ⟨gd, 1, none⟩ = some (.bool false) := (blk_cell hbx 1).trans rfl; have hgdf1 := blk_frozen hbx 1; have hgdc2 : w2.cell? ⟨gd, 2, none⟩ = some (.int .i64 0) := (blk_cell hbx 2).trans rfl; have hgdf2 := blk_frozen hbx 2; have hgdc3 : w2.cell? ⟨gd, 3, none⟩ = some (.slice none 0 0) := (blk_cell hbx 3).trans rfl; have hgdf3 := blk_frozen hbx 3; clear hbx))
  have hst : St w1 w2 gd b false (.int .i64 0) (.slice none 0 0) := ⟨GEgd.out, HBw2.out, A, c, BKgd.out, Kd.C_below HR.out HBw1.out, HC.out⟩
  have hh := head_calls gd b w1 w2 hst HY.out hl
  clear hst
  go_at_call 92
  refine hh.mono ?_
  rintro e w3 ⟨hF, hB3⟩
  have BK1 := Aside0.mk (blk_below (g := g1) BKg1.out hB3)
  have HB3 := Aside0.mk (show Below w.heap.size w w3 from below_step HBw1.out hB3)
  have GL1 := Aside0.mk (blk_lt BKg1.out)
  clear hh hgdc0 hgdf0 hgdc1 hgdf1 hgdc2 hgdf2 hgdc3 hgdf3 hg1c0 hg1f0 hg1c1 hg1f1 hg1c2 hg1f2 hg1c3 hg1f3
  have k1c0 : w3.cell? ⟨g1, 0, none⟩ = some (.int .i64 0) := (blk_cell BK1.out 0).trans rfl; have k1f0 := blk_frozen BK1.out 0; have k1c1 : w3.cell? ⟨g1, 1, none⟩ = some (.slice none 0 0) := (blk_cell BK1.out 1).trans rfl; have k1f1 := blk_frozen BK1.out 1; have k1c2 : w3.cell? ⟨g1, 2, none⟩ = some (.slice none 0 0) := (blk_cell BK1.out 2).trans rfl; have k1f2 := blk_frozen BK1.out 2; have k1c3 : w3.cell? ⟨g1, 3, none⟩ = some (.slice none 0 0) := (blk_cell BK1.out 3).trans rfl; have k1f3 := blk_frozen BK1.out 3
  unfold DecB.Found at hF
  cases hP : implP b with
  | none =>
    rw [hP] at hF
    have hF : e = .returned (.bool false) := hF
    subst hF
    have HD := Aside0.mk (dec_none hP)
    clear hP
    go_wp2
    refine bodyPost_ret (results_ct rfl _ _ g1 59 #[.int .i64 0, .slice none 0 0, .slice none 0 0, .slice none 0 0] (0, 0) _ rfl (by (with_reducible repeat (first | refine blk_drewN ?_ _ | refine blk_drew ?_ | refine blk_alloc ?_ _)); refine blk_put (cs := #[.int .i64 0, .slice none 0 0, .slice none 0 0, .slice none 0 0]) ?_ 3 _ rfl; (with_reducible repeat (first | refine blk_drewN ?_ _ | refine blk_drew ?_ | refine blk_alloc ?_ _)); refine blk_put (cs := #[.int .i64 0, .slice none 0 0, .slice none 0 0, .slice none 0 0]) ?_ 2 _ rfl; (with_reducible repeat (first | refine blk_drewN ?_ _ | refine blk_drew ?_ | refine blk_alloc ?_ _)); refine blk_put (cs := #[.int .i64 0, .slice none 0 0, .slice none 0 0, .slice none 0 0]) ?_ 1 _ rfl; (with_reducible repeat (first | refine blk_drewN ?_ _ | refine blk_drew ?_ | refine blk_alloc ?_ _)); refine blk_put (cs := #[.int .i64 0, .slice none 0 0, .slice none 0 0, .slice none 0 0]) ?_ 0 _ rfl; (with_reducible repeat (first | refine blk_drewN ?_ _ | refine blk_drew ?_ | refine blk_alloc ?_ _)); exact BK1.out) Tryz.underlying59 rfl (by kernel_rfl)) rfl ?_
    rw [HD.out]
    exact ⟨_, rfl, bad_M _ _, below_set (below_set (below_set (below_set (HB3.out) GEg1.out) GEg1.out) GEg1.out) GEg1.out⟩
  | some q =>
    obtain ⟨base, ls⟩ := q
    rw [hP] at hF
    obtain ⟨he, r, f3, hS3, hK3⟩ := hF
    subst he
    obtain ⟨A3, c3, rfl, hc3, hr3⟩ := hK3
    obtain ⟨b0, b1, l1, l2, l3⟩ := implP_some HY.out hP
    have hS3 : St w1 w3 gd r false (.int .i64 base) (.slice A3 ls.length c3) := hS3
    obtain ⟨hd1, hf1, hd2, hf2, hd3, hf3⟩ := hS3.cell
    have HS3 := Aside0.mk hS3
    have hs : smallBB ls := by show ls.length + totalB ls ≤ 1048576; omega
    have HBY := Aside0.mk l3
    have HR3 := Aside0.mk hr3
    have HC3 := Aside0.mk hc3
    have HP := Aside0.mk hP
    have hbuild : ∀ W, Below w3.heap.size w3 W → Calls Tryz.prog 83 #[.int .i64 base, .slice A3 ls.length c3] W fun e w' => ∃ v, e = .returned (.tuple #[v, .int .i64 (build base ls).2]) ∧ tSeg.M w' W.heap.size (fun _ => True) (build base ls).1 v ∧ Grew W w' := fun W hW => build_calls base A3 c3 ls W (Kd.C_below HR3.out hW) HC3.out HBY.out hs
    have HBU := Aside0.mk hbuild
    clear hbuild hS3 hr3 hc3 l3 hs hP
    have HKP := Aside0.mk (show ∀ W, Below w3.heap.size w3 W → (W.cell? ⟨gd, 2, none⟩ = some (.int .i64 base) ∧ W.frozen? ⟨gd, 2, none⟩ = false ∧ W.cell? ⟨gd, 3, none⟩ = some (.slice A3 ls.length c3) ∧ W.frozen? ⟨gd, 3, none⟩ = false) from fun W hW => by
      obtain ⟨_, _, x1, x2, x3, x4⟩ := (HS3.out.below hW).cell
      exact ⟨x1, x2, x3, x4⟩)
    have HZ3 := Aside0.mk HB3.out.size
    have HG1 := Aside0.mk (blk_lt BK1.out)
    cases hft : fits base ls with
    | false =>
      have HBV := Aside0.mk (build_bad hft)
      have HD := Aside0.mk (dec_bad HP.out (fun h => by have := h.1; rw [hft] at this; cases this))
      clear hft
      go_wp2_with fail
      go_region_held3 (fun W_ => W_.cell? ⟨gd, 2, none⟩ = some (.int .i64 base) ∧ W_.frozen? ⟨gd, 2, none⟩ = false ∧ W_.cell? ⟨gd, 3, none⟩ = some (.slice A3 ls.length c3) ∧ W_.frozen? ⟨gd, 3, none⟩ = false) (exact HKP.out _ (by repeat (first | exact Below.refl _ _ | exact HG5.out | apply below_alloc | apply below_drew1 | apply pw_below_drewN | refine below_set ?_ (by first | exact Nat.le_refl _ | exact HZ5.out)))) (first | (go_at_call 83; refine (HBU.out _ ?hb).mono ?_; (case hb => repeat (first | exact Below.refl _ _ | apply below_alloc | apply below_drew1 | apply pw_below_drewN)); rintro e w5 ⟨v5, rfl, hM5, hg5⟩; rw [HBV.out] at hM5; have HG5 := Aside0.mk (show Below w3.heap.size w3 w5 from grew_trans (by repeat (first | exact Below.refl _ _ | apply below_alloc | apply below_drew1 | apply pw_below_drewN)) hg5); have HZ5 := Aside0.mk HG5.out.size; obtain ⟨D1, d1, D2, d2, D3, d3, ev5⟩ := HelpSeg.form (tSeg.K_of_M hM5); subst ev5; rw [HBV.out]; first | (have BKz := Aside0.mk (show w5.heap[w3.heap.size]? = some (.cells #[.int .i64 0, .slice none 0 0, .slice none 0 0, .slice none 0 0] 59 (0, 0)) from blk_below (by (with_reducible repeat (first | refine blk_drewN ?_ _ | refine blk_drew ?_)); exact heap_alloc_new _ _) hg5); have zc0 : w5.cell? ⟨w3.heap.size, 0, none⟩ = some (.int .i64 0) := (blk_cell BKz.out 0).trans rfl; have zf0 := blk_frozen BKz.out 0; have zc1 : w5.cell? ⟨w3.heap.size, 1, none⟩ = some (.slice none 0 0) := (blk_cell BKz.out 1).trans rfl; have zf1 := blk_frozen BKz.out 1; have zc2 : w5.cell? ⟨w3.heap.size, 2, none⟩ = some (.slice none 0 0) := (blk_cell BKz.out 2).trans rfl; have zf2 := blk_frozen BKz.out 2; have zc3 : w5.cell? ⟨w3.heap.size, 3, none⟩ = some (.slice none 0 0) := (blk_cell BKz.out 3).trans rfl; have zf3 := blk_frozen BKz.out 3) | (have BKz := Aside0.mk (heap_alloc_new w5 (.cells #[.int .i64 0, .slice none 0 0, .slice none 0 0, .slice none 0 0] 59 (0, 0))); have zc0 : (w5.alloc (.cells #[.int .i64 0, .slice none 0 0, .slice none 0 0, .slice none 0 0] 59 (0, 0))).cell? ⟨w5.heap.size, 0, none⟩ = some (.int .i64 0) := (blk_cell BKz.out 0).trans rfl; have zf0 := blk_frozen BKz.out 0; have zc1 : (w5.alloc (.cells #[.int .i64 0, .slice none 0 0, .slice none 0 0, .slice none 0 0] 59 (0, 0))).cell? ⟨w5.heap.size, 1, none⟩ = some (.slice none 0 0) := (blk_cell BKz.out 1).trans rfl; have zf1 := blk_frozen BKz.out 1; have zc2 : (w5.alloc (.cells #[.int .i64 0, .slice none 0 0, .slice none 0 0, .slice none 0 0] 59 (0, 0))).cell? ⟨w5.heap.size, 2, none⟩ = some (.slice none 0 0) := (blk_cell BKz.out 2).trans rfl; have zf2 := blk_frozen BKz.out 2; have zc3 : (w5.alloc (.cells #[.int .i64 0, .slice none 0 0, .slice none 0 0, .slice none 0 0] 59 (0, 0))).cell? ⟨w5.heap.size, 3, none⟩ = some (.slice none 0 0) := (blk_cell BKz.out 3).trans rfl; have zf3 := blk_frozen BKz.out 3); clear hg5 hM5))
      all_goals
        refine gen_world _ _ ?_
        intro W9 hW9
        have HB9 := Aside0.mk (show Below w3.heap.size w3 W9 from by rw [hW9]; repeat (first | exact HG5.out | apply below_alloc | refine below_set ?_ (by first | exact Nat.le_refl _ | exact HZ5.out)))
        clear hW9
        clear zc0 zf0 zc1 zf1 zc2 zf2 zc3 zf3 BKz
        clear hd1 hf1 hd2 hf2 hd3 hf3 k1c0 k1f0 k1c1 k1f1 k1c2 k1f2 k1c3 k1f3
        have BK19 := Aside0.mk (blk_below (g := g1) BK1.out HB9.out)
        have k2c0 : W9.cell? ⟨g1, 0, none⟩ = some (.int .i64 0) := (blk_cell BK19.out 0).trans rfl; have k2f0 := blk_frozen BK19.out 0; have k2c1 : W9.cell? ⟨g1, 1, none⟩ = some (.slice none 0 0) := (blk_cell BK19.out 1).trans rfl; have k2f1 := blk_frozen BK19.out 1; have k2c2 : W9.cell? ⟨g1, 2, none⟩ = some (.slice none 0 0) := (blk_cell BK19.out 2).trans rfl; have k2f2 := blk_frozen BK19.out 2; have k2c3 : W9.cell? ⟨g1, 3, none⟩ = some (.slice none 0 0) := (blk_cell BK19.out 3).trans rfl; have k2f3 := blk_frozen BK19.out 3
        go_wp2
        refine bodyPost_ret (results_ct rfl _ _ g1 59 #[.int .i64 0, .slice none 0 0, .slice none 0 0, .slice none 0 0] (0, 0) _ rfl (by (with_reducible repeat (first | refine blk_drewN ?_ _ | refine blk_drew ?_ | refine blk_alloc ?_ _)); refine blk_put (cs := #[.int .i64 0, .slice none 0 0, .slice none 0 0, .slice none 0 0]) ?_ 3 _ rfl; (with_reducible repeat (first | refine blk_drewN ?_ _ | refine blk_drew ?_ | refine blk_alloc ?_ _)); refine blk_put (cs := #[.int .i64 0, .slice none 0 0, .slice none 0 0, .slice none 0 0]) ?_ 2 _ rfl; (with_reducible repeat (first | refine blk_drewN ?_ _ | refine blk_drew ?_ | refine blk_alloc ?_ _)); refine blk_put (cs := #[.int .i64 0, .slice none 0 0, .slice none 0 0, .slice none 0 0]) ?_ 1 _ rfl; (with_reducible repeat (first | refine blk_drewN ?_ _ | refine blk_drew ?_ | refine blk_alloc ?_ _)); refine blk_put (cs := #[.int .i64 0, .slice none 0 0, .slice none 0 0, .slice none 0 0]) ?_ 0 _ rfl; (with_reducible repeat (first | refine blk_drewN ?_ _ | refine blk_drew ?_ | refine blk_alloc ?_ _)); exact BK19.out) Tryz.underlying59 rfl (by kernel_rfl)) rfl ?_
        rw [HD.out]
        exact ⟨_, rfl, bad_M _ _, below_set (below_set (below_set (below_set (below_step HB3.out HB9.out) GEg1.out) GEg1.out) GEg1.out) GEg1.out⟩
    | true =>
      have HBV := Aside0.mk (show build base ls = (seg base ls, 0) from by unfold build; rw [hft]; rfl)
      have HOK := Aside0.mk (encOk_seg hft HBY.out)
      have HF := Aside0.mk hft
      clear hft
      go_wp2_with fail
      go_region_held3 (fun W_ => W_.cell? ⟨gd, 2, none⟩ = some (.int .i64 base) ∧ W_.frozen? ⟨gd, 2, none⟩ = false ∧ W_.cell? ⟨gd, 3, none⟩ = some (.slice A3 ls.length c3) ∧ W_.frozen? ⟨gd, 3, none⟩ = false) (exact HKP.out _ (by repeat (first | exact Below.refl _ _ | exact HG5.out | apply below_alloc | apply below_drew1 | apply pw_below_drewN | refine below_set ?_ (by first | exact Nat.le_refl _ | exact HZ5.out)))) (first | (go_at_call 83; refine (HBU.out _ ?hb).mono ?_; (case hb => repeat (first | exact Below.refl _ _ | apply below_alloc | apply below_drew1 | apply pw_below_drewN)); rintro e w5 ⟨v5, rfl, hM5, hg5⟩; rw [HBV.out] at hM5; have HG5 := Aside0.mk (show Below w3.heap.size w3 w5 from grew_trans (by repeat (first | exact Below.refl _ _ | apply below_alloc | apply below_drew1 | apply pw_below_drewN)) hg5); have HZ5 := Aside0.mk HG5.out.size; obtain ⟨D1, d1, D2, d2, D3, d3, ev5⟩ := seg_form (tSeg.K_of_M hM5); subst ev5; rw [HBV.out]; first | (have BKz := Aside0.mk (show w5.heap[w3.heap.size]? = some (.cells #[.int .i64 0, .slice none 0 0, .slice none 0 0, .slice none 0 0] 59 (0, 0)) from blk_below (by (with_reducible repeat (first | refine blk_drewN ?_ _ | refine blk_drew ?_)); exact heap_alloc_new _ _) hg5); have zc0 : w5.cell? ⟨w3.heap.size, 0, none⟩ = some (.int .i64 0) := (blk_cell BKz.out 0).trans rfl; have zf0 := blk_frozen BKz.out 0; have zc1 : w5.cell? ⟨w3.heap.size, 1, none⟩ = some (.slice none 0 0) := (blk_cell BKz.out 1).trans rfl; have zf1 := blk_frozen BKz.out 1; have zc2 : w5.cell? ⟨w3.heap.size, 2, none⟩ = some (.slice none 0 0) := (blk_cell BKz.out 2).trans rfl; have zf2 := blk_frozen BKz.out 2; have zc3 : w5.cell? ⟨w3.heap.size, 3, none⟩ = some (.slice none 0 0) := (blk_cell BKz.out 3).trans rfl; have zf3 := blk_frozen BKz.out 3; have HM5 := Aside0.mk (show tSeg.M w5 w3.heap.size (fun k => w3.heap.size < k) (seg base ls) _ from tSeg.M_mono (fun k hk => by have h1 : (w3.alloc (.cells #[.int .i64 0, .slice none 0 0, .slice none 0 0, .slice none 0 0] 59 (0, 0))).heap.size ≤ k := hk.1; simp only [World.size_alloc] at h1; exact h1) (tSeg.M_lower (show w3.heap.size ≤ (w3.alloc (.cells #[.int .i64 0, .slice none 0 0, .slice none 0 0, .slice none 0 0] 59 (0, 0))).heap.size from by simp only [World.size_alloc]; exact Nat.le_succ _) (Ty.M_beyond (T := tSeg) hM5)))) | (have BKz := Aside0.mk (heap_alloc_new w5 (.cells #[.int .i64 0, .slice none 0 0, .slice none 0 0, .slice none 0 0] 59 (0, 0))); have zc0 : (w5.alloc (.cells #[.int .i64 0, .slice none 0 0, .slice none 0 0, .slice none 0 0] 59 (0, 0))).cell? ⟨w5.heap.size, 0, none⟩ = some (.int .i64 0) := (blk_cell BKz.out 0).trans rfl; have zf0 := blk_frozen BKz.out 0; have zc1 : (w5.alloc (.cells #[.int .i64 0, .slice none 0 0, .slice none 0 0, .slice none 0 0] 59 (0, 0))).cell? ⟨w5.heap.size, 1, none⟩ = some (.slice none 0 0) := (blk_cell BKz.out 1).trans rfl; have zf1 := blk_frozen BKz.out 1; have zc2 : (w5.alloc (.cells #[.int .i64 0, .slice none 0 0, .slice none 0 0, .slice none 0 0] 59 (0, 0))).cell? ⟨w5.heap.size, 2, none⟩ = some (.slice none 0 0) := (blk_cell BKz.out 2).trans rfl; have zf2 := blk_frozen BKz.out 2; have zc3 : (w5.alloc (.cells #[.int .i64 0, .slice none 0 0, .slice none 0 0, .slice none 0 0] 59 (0, 0))).cell? ⟨w5.heap.size, 3, none⟩ = some (.slice none 0 0) := (blk_cell BKz.out 3).trans rfl; have zf3 := blk_frozen BKz.out 3; have HM5 := Aside0.mk (show tSeg.M w5 w3.heap.size (fun k => w3.heap.size ≤ k ∧ k < w5.heap.size) (seg base ls) _ from Ty.M_beyond (T := tSeg) hM5)); clear hg5 hM5))
      all_goals
        refine gen_world _ _ ?_
        intro W9 hW9
        have HB9 := Aside0.mk (show Below w3.heap.size w3 W9 from by rw [hW9]; repeat (first | exact HG5.out | apply below_alloc | refine below_set ?_ (by first | exact Nat.le_refl _ | exact HZ5.out)))
        first | (have M9 := Aside0.mk (show tSeg.M W9 w3.heap.size (fun k => w3.heap.size ≤ k) (seg base ls) (.agg #[.int .i64 base, .slice D1 ls.length d1, .slice D2 (keys ls).length d2, .slice D3 (keys ls).length d3]) from by rw [hW9]; exact tSeg.M_mono (fun k hk => Nat.le_of_lt hk) (Ty.M_set (T := tSeg) (Ty.M_set (T := tSeg) (Ty.M_set (T := tSeg) (Ty.M_set (T := tSeg) HM5.out (fun k hk e => by omega) _) (fun k hk e => by omega) _) (fun k hk e => by omega) _) (fun k hk e => by omega) _)); obtain ⟨k9, hk9⟩ : ∃ k9, k9 = w3.heap.size := ⟨_, rfl⟩; rw [← hk9]; have BK9 := Aside0.mk (show W9.heap[k9]? = some (.cells #[.int .i64 base, .slice D1 ls.length d1, .slice D2 (keys ls).length d2, .slice D3 (keys ls).length d3] 59 (0, 0)) from by rw [hW9, hk9]; refine blk_put (cs := #[.int .i64 base, .slice D1 ls.length d1, .slice D2 (keys ls).length d2, .slice none 0 0]) ?_ 3 _ rfl; refine blk_put (cs := #[.int .i64 base, .slice D1 ls.length d1, .slice none 0 0, .slice none 0 0]) ?_ 2 _ rfl; refine blk_put (cs := #[.int .i64 base, .slice none 0 0, .slice none 0 0, .slice none 0 0]) ?_ 1 _ rfl; refine blk_put (cs := #[.int .i64 0, .slice none 0 0, .slice none 0 0, .slice none 0 0]) ?_ 0 _ rfl; exact BKz.out)) | (have M9 := Aside0.mk (show tSeg.M W9 w3.heap.size (fun k => w3.heap.size ≤ k) (seg base ls) (.agg #[.int .i64 base, .slice D1 ls.length d1, .slice D2 (keys ls).length d2, .slice D3 (keys ls).length d3]) from by rw [hW9]; exact tSeg.M_mono (fun k hk => hk.1) (Ty.M_below (T := tSeg) HM5.out (below_alloc (Below.refl _ _) _))); obtain ⟨k9, hk9⟩ : ∃ k9, k9 = w5.heap.size := ⟨_, rfl⟩; rw [← hk9]; have BK9 := Aside0.mk (show W9.heap[k9]? = some (.cells #[.int .i64 base, .slice D1 ls.length d1, .slice D2 (keys ls).length d2, .slice D3 (keys ls).length d3] 59 (0, 0)) from by rw [hW9, hk9]; exact heap_alloc_new _ _))
        clear hW9 hk9
        clear zc0 zf0 zc1 zf1 zc2 zf2 zc3 zf3 BKz
        clear hd1 hf1 hd2 hf2 hd3 hf3 k1c0 k1f0 k1c1 k1f1 k1c2 k1f2 k1c3 k1f3 HBV HKP
        have BK19 := Aside0.mk (blk_below (g := g1) BK1.out HB9.out)
        have k2c0 : W9.cell? ⟨g1, 0, none⟩ = some (.int .i64 0) := (blk_cell BK19.out 0).trans rfl; have k2f0 := blk_frozen BK19.out 0; have k2c1 : W9.cell? ⟨g1, 1, none⟩ = some (.slice none 0 0) := (blk_cell BK19.out 1).trans rfl; have k2f1 := blk_frozen BK19.out 1; have k2c2 : W9.cell? ⟨g1, 2, none⟩ = some (.slice none 0 0) := (blk_cell BK19.out 2).trans rfl; have k2f2 := blk_frozen BK19.out 2; have k2c3 : W9.cell? ⟨g1, 3, none⟩ = some (.slice none 0 0) := (blk_cell BK19.out 3).trans rfl; have k2f3 := blk_frozen BK19.out 3; have s9c0 : W9.cell? ⟨k9, 0, none⟩ = some (.int .i64 base) := (blk_cell BK9.out 0).trans rfl; have s9f0 := blk_frozen BK9.out 0; have s9c1 : W9.cell? ⟨k9, 1, none⟩ = some (.slice D1 ls.length d1) := (blk_cell BK9.out 1).trans rfl; have s9f1 := blk_frozen BK9.out 1; have s9c2 : W9.cell? ⟨k9, 2, none⟩ = some (.slice D2 (keys ls).length d2) := (blk_cell BK9.out 2).trans rfl; have s9f2 := blk_frozen BK9.out 2; have s9c3 : W9.cell? ⟨k9, 3, none⟩ = some (.slice D3 (keys ls).length d3) := (blk_cell BK9.out 3).trans rfl; have s9f3 := blk_frozen BK9.out 3
        have henc := enc_seg base ls D1 D2 D3 d1 d2 d3 W9 (tSeg.K_of_M M9.out) HOK.out HBY.out b0
        go_wp2_with fail
        go_at_call 75
        refine henc.mono ?_
        rintro e w6 ⟨vE, rfl, hME, hgE⟩
        obtain ⟨E, ec, rfl, hEc, hEr⟩ := HelpB.tB.K_of_M hME
        have M6 := Aside0.mk (Ty.M_below (T := tSeg) M9.out hgE)
        have BK16 := Aside0.mk (blk_below (g := g1) BK19.out hgE)
        have BK96 := Aside0.mk (blk_below (g := k9) BK9.out hgE)
        have HB6 := Aside0.mk (show Below w.heap.size w w6 from below_step (below_step HB3.out HB9.out) hgE)
        have heq := Tryz.bytes_Equal (.slice E (code (seg base ls)).length ec) (.slice A b.length c) (code (seg base ls)) b w6 (Kd.C_string Tryz.underlying25 Tryz.underlying5 Tryz.underlying9 hEr) (Kd.C_string Tryz.underlying25 Tryz.underlying5 Tryz.underlying9 (Kd.C_below HR.out HB6.out))
        have hsb := same_bytes (code (seg base ls)) b (code_bytes HBY.out) HY.out
        rw [Go.Lib.strOfNums_toList, Go.Lib.strOfNums_toList] at hsb
        rw [hsb] at heq
        clear hsb henc hME hgE hEc hEr k2c0 k2f0 k2c1 k2f1 k2c2 k2f2 k2c3 k2f3 s9c0 s9f0 s9c1 s9f1 s9c2 s9f2 s9c3 s9f3 M9 BK9 BK19
        have k6c0 : w6.cell? ⟨g1, 0, none⟩ = some (.int .i64 0) := (blk_cell BK16.out 0).trans rfl; have k6f0 := blk_frozen BK16.out 0; have k6c1 : w6.cell? ⟨g1, 1, none⟩ = some (.slice none 0 0) := (blk_cell BK16.out 1).trans rfl; have k6f1 := blk_frozen BK16.out 1; have k6c2 : w6.cell? ⟨g1, 2, none⟩ = some (.slice none 0 0) := (blk_cell BK16.out 2).trans rfl; have k6f2 := blk_frozen BK16.out 2; have k6c3 : w6.cell? ⟨g1, 3, none⟩ = some (.slice none 0 0) := (blk_cell BK16.out 3).trans rfl; have k6f3 := blk_frozen BK16.out 3; have t9c0 : w6.cell? ⟨k9, 0, none⟩ = some (.int .i64 base) := (blk_cell BK96.out 0).trans rfl; have t9f0 := blk_frozen BK96.out 0; have t9c1 : w6.cell? ⟨k9, 1, none⟩ = some (.slice D1 ls.length d1) := (blk_cell BK96.out 1).trans rfl; have t9f1 := blk_frozen BK96.out 1; have t9c2 : w6.cell? ⟨k9, 2, none⟩ = some (.slice D2 (keys ls).length d2) := (blk_cell BK96.out 2).trans rfl; have t9f2 := blk_frozen BK96.out 2; have t9c3 : w6.cell? ⟨k9, 3, none⟩ = some (.slice D3 (keys ls).length d3) := (blk_cell BK96.out 3).trans rfl; have t9f3 := blk_frozen BK96.out 3
        by_cases hcb : code (seg base ls) = b
        · rw [decide_eq_true hcb] at heq
          have HD := Aside0.mk (dec_good HP.out ⟨HF.out, hcb⟩)
          clear hcb
          go_wp2_with (go_at_call 93; refine heq.mono ?_; rintro e w7 ⟨rfl, hw7⟩; subst hw7)
          refine bodyPost_ret (results_ct rfl _ _ g1 59 #[.int .i64 base, .slice D1 ls.length d1, .slice D2 (keys ls).length d2, .slice D3 (keys ls).length d3] (0, 0) _ rfl (by (with_reducible repeat (first | refine blk_drewN ?_ _ | refine blk_drew ?_ | refine blk_alloc ?_ _)); refine blk_put (cs := #[.int .i64 base, .slice D1 ls.length d1, .slice D2 (keys ls).length d2, .slice none 0 0]) ?_ 3 _ rfl; (with_reducible repeat (first | refine blk_drewN ?_ _ | refine blk_drew ?_ | refine blk_alloc ?_ _)); refine blk_put (cs := #[.int .i64 base, .slice D1 ls.length d1, .slice none 0 0, .slice none 0 0]) ?_ 2 _ rfl; (with_reducible repeat (first | refine blk_drewN ?_ _ | refine blk_drew ?_ | refine blk_alloc ?_ _)); refine blk_put (cs := #[.int .i64 base, .slice none 0 0, .slice none 0 0, .slice none 0 0]) ?_ 1 _ rfl; (with_reducible repeat (first | refine blk_drewN ?_ _ | refine blk_drew ?_ | refine blk_alloc ?_ _)); refine blk_put (cs := #[.int .i64 0, .slice none 0 0, .slice none 0 0, .slice none 0 0]) ?_ 0 _ rfl; (with_reducible repeat (first | refine blk_drewN ?_ _ | refine blk_drew ?_ | refine blk_alloc ?_ _)); exact BK16.out) Tryz.underlying59 rfl (by kernel_rfl)) rfl ?_
          rw [HD.out]
          refine ⟨_, rfl, ?_, below_set (below_set (below_set (below_set (HB6.out) GEg1.out) GEg1.out) GEg1.out) GEg1.out⟩
          have hg1 := HG1.out
          exact tSeg.M_mono (fun _ _ => trivial) (Ty.M_set (T := tSeg) (Ty.M_set (T := tSeg) (Ty.M_set (T := tSeg) (Ty.M_set (T := tSeg) (tSeg.M_lower HZ3.out M6.out) (fun k hk e => by omega) _) (fun k hk e => by omega) _) (fun k hk e => by omega) _) (fun k hk e => by omega) _)
        · rw [decide_eq_false hcb] at heq
          have HD := Aside0.mk (dec_bad HP.out (fun h => hcb h.2))
          clear hcb
          go_wp2_with (go_at_call 93; refine heq.mono ?_; rintro e w7 ⟨rfl, hw7⟩; subst hw7)
          refine bodyPost_ret (results_ct rfl _ _ g1 59 #[.int .i64 0, .slice none 0 0, .slice none 0 0, .slice none 0 0] (0, 0) _ rfl (by (with_reducible repeat (first | refine blk_drewN ?_ _ | refine blk_drew ?_ | refine blk_alloc ?_ _)); refine blk_put (cs := #[.int .i64 0, .slice none 0 0, .slice none 0 0, .slice none 0 0]) ?_ 3 _ rfl; (with_reducible repeat (first | refine blk_drewN ?_ _ | refine blk_drew ?_ | refine blk_alloc ?_ _)); refine blk_put (cs := #[.int .i64 0, .slice none 0 0, .slice none 0 0, .slice none 0 0]) ?_ 2 _ rfl; (with_reducible repeat (first | refine blk_drewN ?_ _ | refine blk_drew ?_ | refine blk_alloc ?_ _)); refine blk_put (cs := #[.int .i64 0, .slice none 0 0, .slice none 0 0, .slice none 0 0]) ?_ 1 _ rfl; (with_reducible repeat (first | refine blk_drewN ?_ _ | refine blk_drew ?_ | refine blk_alloc ?_ _)); refine blk_put (cs := #[.int .i64 0, .slice none 0 0, .slice none 0 0, .slice none 0 0]) ?_ 0 _ rfl; (with_reducible repeat (first | refine blk_drewN ?_ _ | refine blk_drew ?_ | refine blk_alloc ?_ _)); exact BK16.out) Tryz.underlying59 rfl (by kernel_rfl)) rfl ?_
          rw [HD.out]
          exact ⟨_, rfl, bad_M _ _, below_set (below_set (below_set (below_set (HB6.out) GEg1.out) GEg1.out) GEg1.out) GEg1.out⟩
end Go.Proofs.YtmgmdnmfalepkaaGreat.Decode
