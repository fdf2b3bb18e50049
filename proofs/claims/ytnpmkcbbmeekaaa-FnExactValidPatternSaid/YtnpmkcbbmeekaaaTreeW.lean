/- impl.treeOf: the walk: it answers what the plain function tree says, for every list of elements that reads as such. -/
import Derived.Test.YtnpmkcbbmeekaaaTree
namespace Go.Proofs.Ytnpmkcbbmeekaaa.Tree
open Go.RowKit Go.Proofs.YtnpmkcbbmeekaaaW.PrintWords Go.Proofs.YtnpmkcbbmeekaaaW.PrintMore Go.Proofs.Ytnpmkcbbmeekaaa.Kit Go.Proofs.Ytnpmkcbbmeekaaa.Bits Go.Proofs.Ytnpmkcbbmeekaaa.Node Go.Proofs.Ytnpmkcbbmeekaaa.Canon
set_option linter.unusedVariables false


set_option maxRecDepth 100000 in
set_option maxHeartbeats 4000000 in
theorem treeOf_calls (A : Option Addr) (c : Nat) (t : List Op4) (w : World) (hr : Kd.C kOp w A t.length t) (hc : t.length ≤ c) :
    Calls Try.prog 56 #[.slice A t.length c] w fun e w' => Is (ans (tree t)) e ∧ Grew w w' := by
  have HR := Aside0.mk hr
  have hlen := hr.2.1
  clear hr
  by_cases h1 : t.length < 1
  · have HT := Aside0.mk (show tree t = none by unfold tree; rw [if_pos (.inl h1)])
    go_enter Try.func56, Try.ntmps56
    go_wp2
    go_ret2
    exact ⟨by rw [HT.out]; rfl, Below.refl _ _⟩
  · by_cases h2 : 3000 < t.length
    · have HT := Aside0.mk (show tree t = none by unfold tree; rw [if_pos (.inr h2)])
      go_enter Try.func56, Try.ntmps56
      go_wp2
      go_ret2
      exact ⟨by rw [HT.out]; rfl, Below.refl _ _⟩
    · have d1 : decide ((t.length : Int) < 1) = false := decide_eq_false (by omega)
      have d2 : decide (3000 < (t.length : Int)) = false := decide_eq_false (by omega)
      have HL := Aside0.mk (show 1 ≤ t.length ∧ t.length ≤ 3000 by omega)
      clear h1 h2
      go_enter Try.func56, Try.ntmps56
      go_wp2_with fail
      go_loopg [4, 19] t.length (fun gg s4 s19 wr => ∃ (i g cp : Nat) (st : List Nd), i ≤ t.length ∧ t.length - i ≤ gg ∧ s4 = .slice (some ⟨g, 0, none⟩) st.length cp ∧ s19 = .int .i64 i ∧ Aside0 (fold [] (t.take i) = some st) ∧ Aside0 (kNode.R 83 wr w.heap.size (fun _ => True) (.slice (some ⟨g, 0, none⟩) st.length cp) st) ∧ Aside0 (Below w.heap.size w wr) ∧ Aside0 (w.heap.size ≤ g) ∧ Aside0 (Sane st) ∧ st.length ≤ i)
      case atStart =>
        refine ⟨0, w.heap.size, 0, [], by omega, by omega, rfl, rfl, ⟨rfl⟩, ⟨?_⟩, ⟨below_alloc (Below.refl _ _) _⟩, ⟨Nat.le_refl _⟩, ⟨fun x hx => by simp at hx⟩, by simp⟩
        refine ⟨fun _ _ => trivial, [], ⟨rfl, .inr ⟨w.heap.size, 0, #[], rfl, Nat.le_refl _, heap_alloc_new w _, by simp, by simp [maxLen], rfl, rfl⟩⟩, Reps.none _ _⟩
      case round =>
        obtain ⟨i, g, cp, st, hi, hg, rfl, rfl, HF, HS, HB, HG, HN, hst⟩ := hrel
        have hlz := HL.out.2
        by_cases hlt : i < t.length
        · have hltz : (i : Int) < (t.length : Int) := by omega
          obtain ⟨ad, A1, c1, rfl, hx0, hx1, hx2, hx3, hl1, hr1⟩ := at_op HR.out i hlt
          have HFT := Aside0.mk (fold_take t i hlt)
          generalize t.getD i (0, [], 0, 0) = o at hx0 hx1 hx2 hx3 hl1 hr1 HFT
          obtain ⟨k, l1, mn, mx⟩ := o
          simp only at hx0 hx1 hx2 hx3 hl1 hr1
          replace hx0 := pw_cell_below HB.out hx0
          replace hx1 := pw_cell_below HB.out hx1
          replace hx2 := pw_cell_below HB.out hx2
          replace hx3 := pw_cell_below HB.out hx3
          have HR1 := Aside0.mk hr1
          have HL1 := Aside0.mk hl1
          clear hr1 hl1
          have HNN := Aside0.mk (show push st (k, l1, mn, mx) = none → tree t = none from fun hp => tree_none (fold_cut t (i + 1) (by rw [HFT.out, HF.out]; exact hp)))
          by_cases b1 : k = 1
          · subst b1
            have k4 : ((1 : Int) != 4) = true := rfl
            by_cases m0 : mn = 0
            · subst m0
              by_cases x0 : mx = 0
              · subst x0
                have hcan := canonical_calls A1 c1 l1 (wr.alloc (.cells #[.int .i64 1, .slice A1 l1.length c1, .int .i64 0, .int .i64 0] 96)) (Kd.C_below HR1.out (below_alloc HB.out _)) HL1.out
                cases hcb : canon l1 with
                | false =>
                  rw [hcb] at hcan
                  have HT := Aside0.mk (HNN.out (by unfold push; rw [if_neg (by simp [bad]), if_neg (show ¬ (1 : Int) = 0 by decide), if_pos rfl]; simp only [hcb]; rfl))
                  clear HNN hcb
                  go_wp2_with (go_at_call 68; refine hcan.mono ?_; rintro e w' ⟨rfl, nq, rfl⟩)
                  go_ret2
                  exact ⟨by rw [HT.out]; rfl, pw_below_drewN (below_alloc HB.out _) _⟩
                | true =>
                  rw [hcb] at hcan
                  have HCB := Aside0.mk hcb
                  clear HNN hcb
                  obtain ⟨q256, qb⟩ := canon_bd HCB.out
                  have hset := fun nq => setOf_calls A1 c1 l1 ((wr.alloc (.cells #[.int .i64 1, .slice A1 l1.length c1, .int .i64 0, .int .i64 0] 96)).drewN nq) (Kd.C_below HR1.out (pw_below_drewN (below_alloc HB.out _) _)) q256 qb
                  clear qb
                  generalize hsm : setM 0 l1 = sm at hset
                  have HSM := Aside0.mk hsm
                  clear hsm
                  simp only [words] at hset
                  go_wp2_with (first | (go_at_call 68; refine hcan.mono ?_; rintro e w' ⟨rfl, nq, rfl⟩) | (go_at_call 69; refine (hset _).mono ?_; rintro e w' ⟨rfl, hb'⟩) | (at_builtin; refine Kd.R_append kNode (w0 := w) w.heap.size rfl (.tmp 67) (.tmp 73) 99 83 .nilIface 16 rfl Try.underlying99 infoN rfl (by decide) (by omega) (.slice (some ⟨g, 0, none⟩) st.length cp) st (.set sm) [.iface 107 (.agg #[.int .u64 (word sm 0 : Nat), .int .u64 (word sm 1 : Nat), .int .u64 (word sm 2 : Nat), .int .u64 (word sm 3 : Nat)])] (fun _ => True) (fun _ => False) rfl (by first | rfl | (simp; done) | (simp; rfl)) rfl (fun _ hk => hk.elim) (fun _ _ => trivial) ?aO ?aB ?aS (by omega) ?_; (case aO => exact Kd.R_below HS.out (grew_trans (pw_below_drewN (below_alloc (Below.refl _ _) _) _) hb')); (case aB => exact grew_trans HB.out (grew_trans (pw_below_drewN (below_alloc (Below.refl _ _) _) _) hb')); (case aS => exact below_size (grew_trans HB.out (grew_trans (pw_below_drewN (below_alloc (Below.refl _ _) _) _) hb'))); intro v1 w1 hO1 hB1 hg1 hat1))
                  obtain ⟨g', cp', rfl, hg'⟩ := R_form hO1
                  go_roundg (t.length - (i + 1))
                  case measure => omega
                  case rel =>
                    refine ⟨i + 1, g', cp', st ++ [Nd.set sm], by omega, by omega, rfl, by go_num, ⟨?_⟩, ⟨hO1⟩, ⟨hB1⟩, ⟨hg'⟩, ⟨?_⟩, by simp; omega⟩
                    · rw [HFT.out, HF.out]
                      show push st _ = _
                      unfold push; rw [if_neg (by simp [bad]), if_neg (show ¬ (1 : Int) = 0 by decide), if_pos rfl, if_pos HCB.out, HSM.out]
                    · have := HN.out.push (x := Nd.set sm) ⟨by show (0 : Int) ≤ 1; decide, by show (1 : Int) ≤ 501; decide⟩ st.length
                      rwa [List.take_length] at this
              · have x0b : (mx != 0) = true := bne_iff_ne.mpr x0
                have HT := Aside0.mk (HNN.out (by unfold push; rw [if_pos (by simp [bad, x0])]))
                clear HNN
                go_wp2
                go_ret2
                exact ⟨by rw [HT.out]; rfl, by repeat (first | exact HB.out | apply below_alloc | apply below_drew)⟩
            · have m0b : (mn != 0) = true := bne_iff_ne.mpr m0
              have HT := Aside0.mk (HNN.out (by unfold push; rw [if_pos (by simp [bad, m0])]))
              clear HNN
              go_wp2
              go_ret2
              exact ⟨by rw [HT.out]; rfl, by repeat (first | exact HB.out | apply below_alloc | apply below_drew)⟩
          · have k1b : (k != 1) = true := bne_iff_ne.mpr b1
            by_cases z1 : 0 < l1.length
            · have z1b : (0 : Int) < (l1.length : Int) := by omega
              have HT := Aside0.mk (HNN.out (by unfold push; rw [if_pos (by simp [bad, b1, z1])]))
              clear HNN
              go_wp2
              go_ret2
              exact ⟨by rw [HT.out]; rfl, by repeat (first | exact HB.out | apply below_alloc | apply below_drew)⟩
            · obtain rfl : l1 = [] := List.length_eq_zero_iff.1 (by omega)
              simp only [List.length_nil] at hx1
              clear z1
              by_cases b4 : k = 4
              · subst b4
                have HNB := Aside0.mk (show bad (4, [], mn, mx) = false by simp [bad])
                have hp0 : repOk st.length mn mx = false → push st (4, [], mn, mx) = none := fun hr => by unfold push; rw [if_neg (by rw [HNB.out]; simp), if_neg (show ¬ (4 : Int) = 0 by decide), if_neg (show ¬ (4 : Int) = 1 by decide), if_neg (show ¬ (4 : Int) = 2 by decide), if_neg (show ¬ (4 : Int) = 3 by decide), if_pos rfl]; simp only [hr]; rfl
                have HP0 := Aside0.mk hp0
                clear hp0
                by_cases r1 : 1 ≤ st.length
                · have r1z : (1 : Int) ≤ (st.length : Int) := by omega
                  by_cases r2 : 0 ≤ mn
                  · by_cases r3 : mn ≤ 250
                    · by_cases r4 : mx = -1
                      · subst r4
                        obtain ⟨m, hm⟩ : ∃ m, st.length = m + 1 := ⟨st.length - 1, by omega⟩
                        have HM := Aside0.mk hm
                        clear r1 r1z
                        have ca := node_cell HS.out m (by omega)
                        have fa := node_free HS.out m
                        have sa := HN.out.get m
                        have HP := Aside0.mk (show push st (4, [], mn, (-1)) = some (st.set m (mkRep (st.getD m .empty) mn (-1))) by unfold push; rw [if_neg (by rw [HNB.out]; simp), if_neg (show ¬ (4 : Int) = 0 by decide), if_neg (show ¬ (4 : Int) = 1 by decide), if_neg (show ¬ (4 : Int) = 2 by decide), if_neg (show ¬ (4 : Int) = 3 by decide), if_pos rfl, hm, if_pos (by simp [repOk]; omega)]; rfl)
                        generalize st.getD m .empty = a at ca sa HP
                        have hcall : ∀ W : World, Calls Try.prog 72 #[nodeV a, .int .i64 mn, .int .i64 (-1)] W fun e w' => e = .returned (nodeV (mkRep a mn (-1))) ∧ Grew W w' := fun W => rep_calls a mn (-1) W sa.1 sa.2 r2 (by omega) (by omega) (by omega)
                        have hz := Aside0.mk (show 0 ≤ size (mkRep a mn (-1)) ∧ size (mkRep a mn (-1)) ≤ 501 from cap_bd (repN_nonneg sa.1 r2 (by omega)))
                        obtain ⟨dc, hvc⟩ : ∃ d, nodeV (mkRep a mn (-1)) = .iface 122 d := ⟨_, by rw [mkRep, nodeV]⟩
                        rw [hvc] at hcall
                        have HPUT := fun (W : World) (h : kNode.R 83 W w.heap.size (fun _ => True) (.slice (some ⟨g, 0, none⟩) (m + 1) cp) st) => node_put h m (mkRep a mn (-1))
                        rw [hvc] at HPUT
                        have HPT := Aside0.mk HPUT
                        clear hvc HPUT
                        generalize nodeV a = va at ca hcall
                        have HS' := Aside0.mk (by have := HS.out; rwa [hm] at this : kNode.R 83 wr w.heap.size (fun _ => True) (.slice (some ⟨g, 0, none⟩) (m + 1) cp) st)
                        have hlg := World.block_lt_of_cell? wr _ ca
                        have HLG := Aside0.mk (show g < wr.heap.size from hlg)
                        clear hlg
                        rw [hm]
                        have m0 : (0 : Int) ≤ (m : Int) := by omega
                        have hw1 : IntKind.i64.wrap ((m : Int) + 1 - 1) = (m : Int) := by rw [IntWalk.i64_in _ (by omega)]; omega
                        have hw0 : IntKind.i64.wrap (m : Int) = (m : Int) := IntWalk.i64_in _ (by omega)
                        have m3 : (m : Int) < (m : Int) + 1 := by omega
                        clear HNN hm HP0
                        have HFA := Aside0.mk fa
                        clear fa
                        replace ca := pw_cell_below (below_alloc (Below.refl _ _) (.cells #[.int .i64 4, .slice A1 0 c1, .int .i64 mn, .int .i64 (-1)] 96)) ca
                        go_wp2_with fail
                        go_region_law (go_simp; go_at_call 72; refine (hcall _).mono ?_; rintro e w' ⟨rfl, hb'⟩; have HB9 := Aside0.mk (grew_trans (by repeat (first | exact Below.refl _ _ | apply below_alloc | apply below_drew) : Below wr.heap.size wr _) hb'); have cw := pw_cell_below hb' ca; have fw := (HB9.out.frozen (p := ⟨g, m, none⟩) HLG.out).trans HFA.out; clear hb')
                        all_goals
                          have HPW := HPT.out _ (Kd.R_below HS'.out HB9.out)
                          go_wp2
                          go_roundg (t.length - (i + 1))
                          case measure => omega
                          case rel =>
                            refine ⟨i + 1, g, cp, st.set m (mkRep a mn (-1)), by omega, by omega, by rw [List.length_set, HM.out], by go_num, ⟨?_⟩, ⟨?_⟩, ⟨?_⟩, HG, ⟨HN.out.set hz.out m⟩, by rw [List.length_set]; omega⟩
                            · rw [HFT.out, HF.out]
                              exact HP.out
                            · rw [List.length_set, HM.out]
                              exact HPW.1
                            · exact below_set (grew_trans HB.out HB9.out) HG.out
                      · have r4b : (mx == -1) = false := beq_eq_false_iff_ne.mpr r4
                        by_cases r5 : mn ≤ mx
                        · by_cases r6 : mx ≤ 250
                          · skip
                            obtain ⟨m, hm⟩ : ∃ m, st.length = m + 1 := ⟨st.length - 1, by omega⟩
                            have HM := Aside0.mk hm
                            clear r1 r1z
                            have ca := node_cell HS.out m (by omega)
                            have fa := node_free HS.out m
                            have sa := HN.out.get m
                            have HP := Aside0.mk (show push st (4, [], mn, mx) = some (st.set m (mkRep (st.getD m .empty) mn mx)) by unfold push; rw [if_neg (by rw [HNB.out]; simp), if_neg (show ¬ (4 : Int) = 0 by decide), if_neg (show ¬ (4 : Int) = 1 by decide), if_neg (show ¬ (4 : Int) = 2 by decide), if_neg (show ¬ (4 : Int) = 3 by decide), if_pos rfl, hm, if_pos (by simp [repOk]; omega)]; rfl)
                            generalize st.getD m .empty = a at ca sa HP
                            have hcall : ∀ W : World, Calls Try.prog 72 #[nodeV a, .int .i64 mn, .int .i64 mx] W fun e w' => e = .returned (nodeV (mkRep a mn mx)) ∧ Grew W w' := fun W => rep_calls a mn mx W sa.1 sa.2 r2 (by omega) (by omega) (by omega)
                            have hz := Aside0.mk (show 0 ≤ size (mkRep a mn mx) ∧ size (mkRep a mn mx) ≤ 501 from cap_bd (repN_nonneg sa.1 r2 (by omega)))
                            obtain ⟨dc, hvc⟩ : ∃ d, nodeV (mkRep a mn mx) = .iface 122 d := ⟨_, by rw [mkRep, nodeV]⟩
                            rw [hvc] at hcall
                            have HPUT := fun (W : World) (h : kNode.R 83 W w.heap.size (fun _ => True) (.slice (some ⟨g, 0, none⟩) (m + 1) cp) st) => node_put h m (mkRep a mn mx)
                            rw [hvc] at HPUT
                            have HPT := Aside0.mk HPUT
                            clear hvc HPUT
                            generalize nodeV a = va at ca hcall
                            have HS' := Aside0.mk (by have := HS.out; rwa [hm] at this : kNode.R 83 wr w.heap.size (fun _ => True) (.slice (some ⟨g, 0, none⟩) (m + 1) cp) st)
                            have hlg := World.block_lt_of_cell? wr _ ca
                            have HLG := Aside0.mk (show g < wr.heap.size from hlg)
                            clear hlg
                            rw [hm]
                            have m0 : (0 : Int) ≤ (m : Int) := by omega
                            have hw1 : IntKind.i64.wrap ((m : Int) + 1 - 1) = (m : Int) := by rw [IntWalk.i64_in _ (by omega)]; omega
                            have hw0 : IntKind.i64.wrap (m : Int) = (m : Int) := IntWalk.i64_in _ (by omega)
                            have m3 : (m : Int) < (m : Int) + 1 := by omega
                            clear HNN hm HP0
                            have HFA := Aside0.mk fa
                            clear fa
                            replace ca := pw_cell_below (below_alloc (Below.refl _ _) (.cells #[.int .i64 4, .slice A1 0 c1, .int .i64 mn, .int .i64 mx] 96)) ca
                            go_wp2_with fail
                            go_region_law (go_simp; go_at_call 72; refine (hcall _).mono ?_; rintro e w' ⟨rfl, hb'⟩; have HB9 := Aside0.mk (grew_trans (by repeat (first | exact Below.refl _ _ | apply below_alloc | apply below_drew) : Below wr.heap.size wr _) hb'); have cw := pw_cell_below hb' ca; have fw := (HB9.out.frozen (p := ⟨g, m, none⟩) HLG.out).trans HFA.out; clear hb')
                            all_goals
                              have HPW := HPT.out _ (Kd.R_below HS'.out HB9.out)
                              go_wp2
                              go_roundg (t.length - (i + 1))
                              case measure => omega
                              case rel =>
                                refine ⟨i + 1, g, cp, st.set m (mkRep a mn mx), by omega, by omega, by rw [List.length_set, HM.out], by go_num, ⟨?_⟩, ⟨?_⟩, ⟨?_⟩, HG, ⟨HN.out.set hz.out m⟩, by rw [List.length_set]; omega⟩
                                · rw [HFT.out, HF.out]
                                  exact HP.out
                                · rw [List.length_set, HM.out]
                                  exact HPW.1
                                · exact below_set (grew_trans HB.out HB9.out) HG.out
                          · have r6z : 250 < mx := by omega
                            have HT := Aside0.mk (HNN.out (HP0.out (by unfold repOk; simp only [Bool.and_eq_false_iff, Bool.or_eq_false_iff, decide_eq_false_iff_not, beq_eq_false_iff_ne]; omega)))
                            clear HNN
                            go_wp2
                            go_ret2
                            exact ⟨by rw [HT.out]; rfl, by repeat (first | exact HB.out | apply below_alloc | apply below_drew)⟩
                        · have r5z : mx < mn := by omega
                          have HT := Aside0.mk (HNN.out (HP0.out (by unfold repOk; simp only [Bool.and_eq_false_iff, Bool.or_eq_false_iff, decide_eq_false_iff_not, beq_eq_false_iff_ne]; omega)))
                          clear HNN
                          go_wp2
                          go_ret2
                          exact ⟨by rw [HT.out]; rfl, by repeat (first | exact HB.out | apply below_alloc | apply below_drew)⟩
                    · have r3z : 250 < mn := by omega
                      have HT := Aside0.mk (HNN.out (HP0.out (by unfold repOk; simp only [Bool.and_eq_false_iff, Bool.or_eq_false_iff, decide_eq_false_iff_not, beq_eq_false_iff_ne]; omega)))
                      clear HNN
                      go_wp2
                      go_ret2
                      exact ⟨by rw [HT.out]; rfl, by repeat (first | exact HB.out | apply below_alloc | apply below_drew)⟩
                  · have r2z : mn < 0 := by omega
                    have HT := Aside0.mk (HNN.out (HP0.out (by unfold repOk; simp only [Bool.and_eq_false_iff, Bool.or_eq_false_iff, decide_eq_false_iff_not, beq_eq_false_iff_ne]; omega)))
                    clear HNN
                    go_wp2
                    go_ret2
                    exact ⟨by rw [HT.out]; rfl, by repeat (first | exact HB.out | apply below_alloc | apply below_drew)⟩
                · have r1z : ¬ (1 : Int) ≤ (st.length : Int) := by omega
                  have HT := Aside0.mk (HNN.out (HP0.out (by unfold repOk; simp only [Bool.and_eq_false_iff, Bool.or_eq_false_iff, decide_eq_false_iff_not, beq_eq_false_iff_ne]; omega)))
                  clear HNN
                  go_wp2
                  go_ret2
                  exact ⟨by rw [HT.out]; rfl, by repeat (first | exact HB.out | apply below_alloc | apply below_drew)⟩
              · have k4b : (k != 4) = true := bne_iff_ne.mpr b4
                by_cases m0 : mn = 0
                · subst m0
                  by_cases x0 : mx = 0
                  · subst x0
                    have HNB := Aside0.mk (show bad (k, [], 0, 0) = false by simp [bad])
                    by_cases b0 : k = 0
                    · subst b0
                      go_wp2_with (at_builtin; refine Kd.R_append kNode (w0 := w) w.heap.size rfl (.tmp 53) (.tmp 56) 99 83 .nilIface 16 rfl Try.underlying99 infoN rfl (by decide) (by omega) (.slice (some ⟨g, 0, none⟩) st.length cp) st .empty [.iface 101 (.agg #[])] (fun _ => True) (fun _ => False) rfl (by first | rfl | (simp; done) | (simp; rfl)) rfl (fun _ hk => hk.elim) (fun _ _ => trivial) ?aO ?aB ?aS (by omega) ?_; (case aO => exact Kd.R_below HS.out (below_alloc (Below.refl _ _) _)); (case aB => exact below_alloc HB.out _); (case aS => exact below_size (below_alloc HB.out _)); intro v1 w1 hO1 hB1 hg1 hat1)
                      obtain ⟨g', cp', rfl, hg'⟩ := R_form hO1
                      go_roundg (t.length - (i + 1))
                      case measure => omega
                      case rel =>
                        refine ⟨i + 1, g', cp', st ++ [Nd.empty], by omega, by omega, rfl, by go_num, ⟨?_⟩, ⟨hO1⟩, ⟨hB1⟩, ⟨hg'⟩, ⟨?_⟩, by simp; omega⟩
                        · rw [HFT.out, HF.out]
                          show push st _ = _
                          unfold push; rw [if_neg (by rw [HNB.out]; simp), if_pos rfl]
                        · have := HN.out.push (x := Nd.empty) ⟨by show (0 : Int) ≤ 1; decide, by show (1 : Int) ≤ 501; decide⟩ st.length
                          rwa [List.take_length] at this
                    · have k0b : (k == 0) = false := beq_eq_false_iff_ne.mpr b0
                      have k1c : (k == 1) = false := beq_eq_false_iff_ne.mpr b1
                      have k4c : (k == 4) = false := beq_eq_false_iff_ne.mpr b4
                      by_cases b2 : k = 2
                      · subst b2
                        by_cases n2 : 2 ≤ st.length
                        · obtain ⟨m, hm⟩ : ∃ m, st.length = m + 2 := ⟨st.length - 2, by omega⟩
                          have HM := Aside0.mk hm
                          clear n2
                          have ca := node_cell HS.out m (by omega)
                          have cb := node_cell HS.out (m + 1) (by omega)
                          have sa := HN.out.get m
                          have sb := HN.out.get (m + 1)
                          have HP := Aside0.mk (show push st (2, [], 0, 0) = some (st.take m ++ [mkCat (st.getD m .empty) (st.getD (m + 1) .empty)]) by unfold push; rw [if_neg (by rw [HNB.out]; simp), if_neg (show ¬ (2 : Int) = 0 by decide), if_neg (show ¬ (2 : Int) = 1 by decide), if_pos rfl, if_pos (by omega), hm]; rfl)
                          generalize st.getD m .empty = a at ca sa HP
                          generalize st.getD (m + 1) .empty = b at cb sb HP
                          have hcall : ∀ W : World, Calls Try.prog 70 #[nodeV a, nodeV b] W fun e w' => e = .returned (nodeV (mkCat a b)) ∧ Grew W w' := fun W => cat_calls a b W ⟨sa.1, by omega⟩ ⟨sb.1, by omega⟩
                          obtain ⟨dc, hvc⟩ : ∃ d, nodeV (mkCat a b) = .iface 119 d := ⟨_, by rw [mkCat, nodeV]⟩
                          rw [hvc] at hcall
                          have HVC := Aside0.mk (show [.iface 119 dc] = [nodeV (mkCat a b)] by rw [hvc])
                          clear hvc
                          generalize nodeV a = va at ca hcall
                          generalize nodeV b = vb at cb hcall
                          have hcp : st.length ≤ cp := by obtain ⟨A', c', e', h', _⟩ := Kd.R_reads HS.out; injection e' with _ _ e'; omega
                          rw [hm] at hcp
                          have hcz : (m : Int) ≤ (cp : Int) := by omega
                          have hw0 : IntKind.i64.wrap (m : Int) = (m : Int) := IntWalk.i64_in _ (by omega)
                          have hw1 : IntKind.i64.wrap ((m : Int) + 2 - 1) = (m : Int) + 1 := by rw [IntWalk.i64_in _ (by omega)]; omega
                          have m1 : (0 : Int) ≤ (m : Int) + 1 := by omega
                          have m2 : (m : Int) < (m : Int) + 2 := by omega
                          have m3 : (m : Int) + 1 < (m : Int) + 2 := by omega
                          have tn : ((m : Int) + 1).toNat = m + 1 := by omega
                          rw [hm]
                          have m0 : (0 : Int) ≤ (m : Int) := by omega
                          clear HNN hm
                          replace ca := pw_cell_below (below_alloc (Below.refl _ _) (.cells #[.int .i64 2, .slice A1 0 c1, .int .i64 0, .int .i64 0] 96)) ca
                          replace cb := pw_cell_below (below_alloc (Below.refl _ _) (.cells #[.int .i64 2, .slice A1 0 c1, .int .i64 0, .int .i64 0] 96)) cb
                          go_wp2_with fail
                          go_region_law (first | (go_simp; go_at_call 70; refine (hcall _).mono ?_; rintro e w' ⟨rfl, hb'⟩) | (refine Kd.R_append_step kNode (w0 := w) w.heap.size (by simp [Region.wanted]) (.tmp 86) (.tmp 98) 99 83 .nilIface 16 (by rfl) Try.underlying99 infoN rfl (by decide) (by omega) (.slice (some ⟨g, 0, none⟩) m cp) (st.take m) (mkCat a b) [.iface 119 dc] (fun _ => True) (fun _ => False) (by rfl) (by first | rfl | (simp; done) | (simp; rfl)) HVC.out (fun _ hk => hk.elim) (fun _ _ => trivial) ?aO ?aB ?aS (by rw [List.length_take]; omega) ?_; (case aO => exact Kd.R_below (Kd.R_take HS.out (by have := HM.out; omega)) (grew_trans (by repeat (first | exact Below.refl _ _ | apply below_alloc | apply below_drew)) hb')); (case aB => exact grew_trans HB.out (grew_trans (by repeat (first | exact Below.refl _ _ | apply below_alloc | apply below_drew)) hb')); (case aS => exact below_size (grew_trans HB.out (grew_trans (by repeat (first | exact Below.refl _ _ | apply below_alloc | apply below_drew)) hb'))); intro v1 w1 hO1 hB1 hg1 hat1))
                          all_goals
                            go_wp2
                            obtain ⟨g', cp', rfl, hg'⟩ := R_form hO1
                            go_roundg (t.length - (i + 1))
                            case measure => omega
                            case rel =>
                              refine ⟨i + 1, g', cp', st.take m ++ [mkCat a b], by omega, by omega, rfl, by go_num, ⟨?_⟩, ⟨hO1⟩, ⟨hB1⟩, ⟨hg'⟩, ⟨HN.out.push (show 0 ≤ size (mkCat a b) ∧ size (mkCat a b) ≤ 501 from cap_bd (n := size a + size b) (by omega)) m⟩, by rw [List.length_append, List.length_take]; simp; omega⟩
                              rw [HFT.out, HF.out]
                              exact HP.out
                        · have n2z : ¬ (2 : Int) ≤ (st.length : Int) := by omega
                          have HT := Aside0.mk (HNN.out (by unfold push; rw [if_neg (by rw [HNB.out]; simp), if_neg (show ¬ (2 : Int) = 0 by decide), if_neg (show ¬ (2 : Int) = 1 by decide), if_pos rfl, if_neg n2]))
                          clear HNN
                          go_wp2
                          go_ret2
                          exact ⟨by rw [HT.out]; rfl, by repeat (first | exact HB.out | apply below_alloc | apply below_drew)⟩
                      · have k2b : (k == 2) = false := beq_eq_false_iff_ne.mpr b2
                        by_cases b3 : k = 3
                        · subst b3
                          by_cases n2 : 2 ≤ st.length
                          · obtain ⟨m, hm⟩ : ∃ m, st.length = m + 2 := ⟨st.length - 2, by omega⟩
                            have HM := Aside0.mk hm
                            clear n2
                            have ca := node_cell HS.out m (by omega)
                            have cb := node_cell HS.out (m + 1) (by omega)
                            have sa := HN.out.get m
                            have sb := HN.out.get (m + 1)
                            have HP := Aside0.mk (show push st (3, [], 0, 0) = some (st.take m ++ [mkAlt (st.getD m .empty) (st.getD (m + 1) .empty)]) by unfold push; rw [if_neg (by rw [HNB.out]; simp), if_neg (show ¬ (3 : Int) = 0 by decide), if_neg (show ¬ (3 : Int) = 1 by decide), if_neg (show ¬ (3 : Int) = 2 by decide), if_pos rfl, if_pos (by omega), hm]; rfl)
                            generalize st.getD m .empty = a at ca sa HP
                            generalize st.getD (m + 1) .empty = b at cb sb HP
                            have hcall : ∀ W : World, Calls Try.prog 71 #[nodeV a, nodeV b] W fun e w' => e = .returned (nodeV (mkAlt a b)) ∧ Grew W w' := fun W => alt_calls a b W ⟨sa.1, by omega⟩ ⟨sb.1, by omega⟩
                            obtain ⟨dc, hvc⟩ : ∃ d, nodeV (mkAlt a b) = .iface 120 d := ⟨_, by rw [mkAlt, nodeV]⟩
                            rw [hvc] at hcall
                            have HVC := Aside0.mk (show [.iface 120 dc] = [nodeV (mkAlt a b)] by rw [hvc])
                            clear hvc
                            generalize nodeV a = va at ca hcall
                            generalize nodeV b = vb at cb hcall
                            have hcp : st.length ≤ cp := by obtain ⟨A', c', e', h', _⟩ := Kd.R_reads HS.out; injection e' with _ _ e'; omega
                            rw [hm] at hcp
                            have hcz : (m : Int) ≤ (cp : Int) := by omega
                            have hw0 : IntKind.i64.wrap (m : Int) = (m : Int) := IntWalk.i64_in _ (by omega)
                            have hw1 : IntKind.i64.wrap ((m : Int) + 2 - 1) = (m : Int) + 1 := by rw [IntWalk.i64_in _ (by omega)]; omega
                            have m1 : (0 : Int) ≤ (m : Int) + 1 := by omega
                            have m2 : (m : Int) < (m : Int) + 2 := by omega
                            have m3 : (m : Int) + 1 < (m : Int) + 2 := by omega
                            have tn : ((m : Int) + 1).toNat = m + 1 := by omega
                            rw [hm]
                            have m0 : (0 : Int) ≤ (m : Int) := by omega
                            clear HNN hm
                            replace ca := pw_cell_below (below_alloc (Below.refl _ _) (.cells #[.int .i64 3, .slice A1 0 c1, .int .i64 0, .int .i64 0] 96)) ca
                            replace cb := pw_cell_below (below_alloc (Below.refl _ _) (.cells #[.int .i64 3, .slice A1 0 c1, .int .i64 0, .int .i64 0] 96)) cb
                            go_wp2_with fail
                            go_region_law (first | (go_simp; go_at_call 71; refine (hcall _).mono ?_; rintro e w' ⟨rfl, hb'⟩) | (refine Kd.R_append_step kNode (w0 := w) w.heap.size (by simp [Region.wanted]) (.tmp 111) (.tmp 123) 99 83 .nilIface 16 (by rfl) Try.underlying99 infoN rfl (by decide) (by omega) (.slice (some ⟨g, 0, none⟩) m cp) (st.take m) (mkAlt a b) [.iface 120 dc] (fun _ => True) (fun _ => False) (by rfl) (by first | rfl | (simp; done) | (simp; rfl)) HVC.out (fun _ hk => hk.elim) (fun _ _ => trivial) ?aO ?aB ?aS (by rw [List.length_take]; omega) ?_; (case aO => exact Kd.R_below (Kd.R_take HS.out (by have := HM.out; omega)) (grew_trans (by repeat (first | exact Below.refl _ _ | apply below_alloc | apply below_drew)) hb')); (case aB => exact grew_trans HB.out (grew_trans (by repeat (first | exact Below.refl _ _ | apply below_alloc | apply below_drew)) hb')); (case aS => exact below_size (grew_trans HB.out (grew_trans (by repeat (first | exact Below.refl _ _ | apply below_alloc | apply below_drew)) hb'))); intro v1 w1 hO1 hB1 hg1 hat1))
                            all_goals
                              go_wp2
                              obtain ⟨g', cp', rfl, hg'⟩ := R_form hO1
                              go_roundg (t.length - (i + 1))
                              case measure => omega
                              case rel =>
                                refine ⟨i + 1, g', cp', st.take m ++ [mkAlt a b], by omega, by omega, rfl, by go_num, ⟨?_⟩, ⟨hO1⟩, ⟨hB1⟩, ⟨hg'⟩, ⟨HN.out.push (show 0 ≤ size (mkAlt a b) ∧ size (mkAlt a b) ≤ 501 from cap_bd (n := size a + size b) (by omega)) m⟩, by rw [List.length_append, List.length_take]; simp; omega⟩
                                rw [HFT.out, HF.out]
                                exact HP.out
                          · have n2z : ¬ (2 : Int) ≤ (st.length : Int) := by omega
                            have HT := Aside0.mk (HNN.out (by unfold push; rw [if_neg (by rw [HNB.out]; simp), if_neg (show ¬ (3 : Int) = 0 by decide), if_neg (show ¬ (3 : Int) = 1 by decide), if_neg (show ¬ (3 : Int) = 2 by decide), if_pos rfl, if_neg n2]))
                            clear HNN
                            go_wp2
                            go_ret2
                            exact ⟨by rw [HT.out]; rfl, by repeat (first | exact HB.out | apply below_alloc | apply below_drew)⟩
                        · have k3b : (k == 3) = false := beq_eq_false_iff_ne.mpr b3
                          have HT := Aside0.mk (HNN.out (by unfold push; rw [if_neg (by rw [HNB.out]; simp), if_neg b0, if_neg b1, if_neg b2, if_neg b3, if_neg b4]))
                          clear HNN
                          go_wp2
                          go_ret2
                          exact ⟨by rw [HT.out]; rfl, by repeat (first | exact HB.out | apply below_alloc | apply below_drew)⟩
                  · have x0b : (mx != 0) = true := bne_iff_ne.mpr x0
                    have HT := Aside0.mk (HNN.out (by unfold push; rw [if_pos (by simp [bad, b4, x0])]))
                    clear HNN
                    go_wp2
                    go_ret2
                    exact ⟨by rw [HT.out]; rfl, by repeat (first | exact HB.out | apply below_alloc | apply below_drew)⟩
                · have m0b : (mn != 0) = true := bne_iff_ne.mpr m0
                  have HT := Aside0.mk (HNN.out (by unfold push; rw [if_pos (by simp [bad, b4, m0])]))
                  clear HNN
                  go_wp2
                  go_ret2
                  exact ⟨by rw [HT.out]; rfl, by repeat (first | exact HB.out | apply below_alloc | apply below_drew)⟩
        · obtain rfl : i = t.length := by omega
          have HF' := Aside0.mk (show fold [] t = some st by have := HF.out; rwa [List.take_length] at this)
          clear hlt
          by_cases s1 : st.length = 1
          · have ca := node_cell HS.out 0 (by omega)
            have sa := HN.out.get 0
            have HTT := Aside0.mk (show tree t = if size (st.getD 0 .empty) ≤ 500 then some (st.getD 0 .empty) else none by
              unfold tree
              rw [if_neg (by have := HL.out; omega), HF'.out]
              simp only [Option.bind_some, if_pos s1])
            generalize st.getD 0 .empty = a at ca sa HTT
            obtain ⟨T0, d0, K0, h0⟩ := sized a
            have HV0 := Aside0.mk h0.val
            have hm0 := h0.met
            have he0 := h0.ent
            have hc0 := h0.call
            rw [h0.val] at ca
            clear h0
            obtain ⟨sa1, sa2⟩ := sa
            generalize hsz : size a = n at hc0 HTT sa1 sa2
            clear hsz
            rw [s1]
            by_cases z : 500 < n
            · have HT := Aside0.mk (HTT.out.trans (if_neg (by omega)))
              clear HTT
              go_wp2_with (go_at_fn K0; refine (hc0 _).mono ?_; rintro e w1 ⟨rfl, hb0⟩)
              go_ret2
              exact ⟨by rw [HT.out]; rfl, grew_trans HB.out hb0⟩
            · have HT := Aside0.mk (HTT.out.trans (if_pos (by omega)))
              clear HTT
              go_wp2_with (go_at_fn K0; refine (hc0 _).mono ?_; rintro e w1 ⟨rfl, hb0⟩; have cb := pw_cell_below hb0 ca)
              go_ret2
              exact ⟨by rw [HT.out]; show _ = Ending.returned (.tuple #[nodeV a, .bool true]); rw [HV0.out]; rfl, grew_trans HB.out hb0⟩
          · have HT := Aside0.mk (show tree t = none by
              unfold tree
              rw [if_neg (by have := HL.out; omega), HF'.out]
              simp only [Option.bind_some, if_neg s1])
            have s1b : ((st.length : Int) != 1) = true := bne_iff_ne.mpr (by omega)
            go_wp2
            go_ret2
            exact ⟨by rw [HT.out]; rfl, HB.out⟩
end Go.Proofs.Ytnpmkcbbmeekaaa.Tree
