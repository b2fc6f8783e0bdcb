/- Functions of the program, part 16. -/
import Derived.Test.YtboolnpmlmgpkaaGreatDoorF15
import Derived.Test.YtboolnpmlmgpkaaGreatDoorA10
set_option linter.unusedVariables false
set_option maxRecDepth 20000
set_option linter.unusedSimpArgs false
set_option linter.unnecessarySimpa false
namespace Go.Proofs.YtboolnpmlmgpkaaGreatDoor
open Go Go.Proofs Go.Abs

set_option maxHeartbeats 8000000 in
theorem ev_rstart (m : Mo) (w : Wi) (ft : Fit m w) : Ev TE 104 [m.v, w.v] (.agg [bools (w.state m), rwB w.seq]) := by
  have hM : maxLen = 9223372036854775807 := rfl
  have f1 := ft.st1
  have f2 := ft.s2
  have f3 := ft.st
  have f4 := ft.lat
  have f5 := ft.ini
  have f6 := ft.ins1
  obtain ⟨MM, hMM⟩ : ∃ MM : O, MM = O.cells [vi m.g.ins, ints m.g.next, ints m.g.init, prs m.g.ands, ints m.g.outs, strs m.ins, strs m.lat, strs m.out] := ⟨_, rfl⟩
  obtain ⟨WW, hWW⟩ : ∃ WW : O, WW = O.cells [vi w.bad, ints w.st, cls w.steps] := ⟨_, rfl⟩
  obtain ⟨HH, hHH⟩ : ∃ HH : Nat → Nat → List V → List V → H, HH = fun n1 n2 c1 c2 => [O.cells [vi m.g.ins, ints m.g.next, ints m.g.init, prs m.g.ands, ints m.g.outs, strs m.ins, strs m.lat, strs m.out], O.cells [vi w.bad, ints w.st, cls w.steps], .cells [.nils, .nils], .cells [.ls 4 1 0 n1 n1, .ls 5 1 0 n2 n2], .cells c1, .cells c2] := ⟨_, rfl⟩
  refine Ev.of_awp Tryz.func104 rfl (by simp [nts]) ?_
  
  unfold Mo.v Wi.v
  refine awp_seq (vc_ok mixed _ _ _ _ ?_)
  simp only [sz.down, ↓reduceIte, Nat.reduceEqDiff, Nat.reduceLT, Nat.reduceAdd, TEP, tis, nts, Tryz.results104]
  refine awp_seq (vc_ok mixed _ _ _ _ ?_)
  simp only [sz.down, ↓reduceIte, Nat.reduceEqDiff, Nat.reduceLT, Nat.reduceAdd, TEP, tis]
  refine awp_bare ?_
  refine awp_bare ?_
  refine awp_leH (h' := HH 0 0 [] []) (by rw [hHH]; exact HLe.set (i := 3) (o' := .cells [.ls 4 1 0 0 0, .ls 5 1 0 0 0]) rfl (OLe.cells (Nat.le_refl _) (VLes.cons VLe.nil_ls (VLes.cons VLe.nil_ls (VLes.refl _))))) ?_
  refine awp_seq (awp_seq (awp_mono (Q := fun xe f h => xe = .normal ∧ f.t 2 = .lp 0 0 ∧ f.t 3 = .lp 1 0 ∧ f.t 4 = .lp 2 0 ∧ f.t 5 = .lp 3 0 ∧ f.t 6 = vi 0 ∧ f.d = [] ∧ h = HH 0 0 [] []) ?_ ?_))
  · rintro xe f h ⟨rfl, h2, h3, h4, h5, h6, hd, rfl⟩
    show awp _ _ _ _ _ _ _
    refine awp_mono (Q := fun xe f h => xe = .normal ∧ f.t 2 = .lp 0 0 ∧ f.t 3 = .lp 1 0 ∧ f.t 4 = .lp 2 0 ∧ f.t 5 = .lp 3 0 ∧ f.d = [] ∧ h = HH w.st.length 0 ((w.state m).map V.bool) []) ?_ ?_
    · rintro xe f h ⟨rfl, h2, h3, h4, h5, hd, rfl⟩
      show awp _ _ _ _ _ _ _
      obtain ⟨C, hC⟩ : ∃ C, C = (w.state m).map V.bool := ⟨_, rfl⟩
      rw [← hC]
      have dC : ∀ p, V.drops p C = C := fun p => by rw [hC]; exact drops_b _
      have lC : C.length = w.st.length := by rw [hC, List.length_map]; exact stB_len
      refine awp_seq (awp_seq (awp_mono (Q := fun xe f h => xe = .normal ∧ f.t 3 = .lp 1 0 ∧ f.t 4 = .lp 2 0 ∧ f.t 5 = .lp 3 0 ∧ f.t 7 = vi 0 ∧ f.d = [] ∧ h = HH w.st.length 0 C []) ?_ ?_))
      · rintro xe f h ⟨rfl, h3, h4, h5, h7, hd, rfl⟩
        show awp _ _ _ _ _ _ _
        refine awp_mono (Q := fun xe f h => xe = .normal ∧ f.t 4 = .lp 2 0 ∧ f.t 5 = .lp 3 0 ∧ f.d = [] ∧ h = HH w.st.length w.steps.length C (w.steps.map fun l => bools (insB l))) ?_ ?_
        · rintro xe f h ⟨rfl, h4, h5, hd, rfl⟩
          show awp _ _ _ _ _ _ _
          rw [hHH]
          refine vc_ok mixed _ _ _ _ ?_
          simp only [sz.down, ↓reduceIte, Nat.reduceEqDiff, Nat.reduceLT, Nat.reduceAdd, reduceCtorEq, TEP, tis, h4, h5, hd]
          have rw1 : rwB w.seq = .is false 1 (w.steps.map fun l => bools (insB l)) := by
            unfold Wi.seq
            show V.is false 1 ((w.steps.map insB).map fun c => bools c) = _
            rw [List.map_map]; rfl
          rw [rw1]
          refine Reif.agg (Reifs.cons (reif_bools (by rw [hC]; rfl) (by rw [← lC, hC, List.length_map])) (Reifs.cons (Reif.ls rfl (Reifs.dat (rw_ok _).1) (rw_ok _).2.1 (rw_ok _).2.2 (by simp)) Reifs.nil))
        · refine awp_block ?_
          refine awp_loop (fun k f h => ∃ i, k + i = w.steps.length ∧ f.t 3 = .lp 1 0 ∧ f.t 4 = .lp 2 0 ∧ f.t 5 = .lp 3 0 ∧ f.t 7 = vi i ∧ f.d = [] ∧ h = HH w.st.length i C ((w.steps.take i).map fun l => bools (insB l))) w.steps.length ⟨0, by omega, h3, h4, h5, h7, hd, rfl⟩ ?_
          rintro k f h ⟨i, hk, h3, h4, h5, h7, hd, rfl⟩
          rw [hHH]
          refine awp_seq ?_
          refine vc_ok mixed _ _ _ _ ?_
          simp only [sz.down, ↓reduceIte, Nat.reduceEqDiff, Nat.reduceLT, Nat.reduceAdd, TEP, tis, h3, h7]
          refine vcB.mk (fun hlt => ?_) (fun hlt => ?_)
          · simp only [decide_eq_true_eq, Int.ofNat_lt] at hlt
            have hgl : (w.steps.map fun c => ints c).getD i .any = ints w.steps[i] := getC hlt _
            obtain ⟨q1, q2⟩ := ft.row _ (List.getElem_mem hlt)
            have hdr : ∀ p, V.drops p ((w.steps.take i).map fun l => bools (insB l)) = (w.steps.take i).map fun l => bools (insB l) := fun p => drops_rw p _
            obtain ⟨D, hD⟩ : ∃ D, D = (w.steps.take i).map fun l => bools (insB l) := ⟨_, rfl⟩
            rw [← hD] at hdr ⊢
            have lD : D.length = i := by rw [hD, List.length_map, List.length_take]; omega
            refine awp_seq (awp_block ?_)
            refine awp_seq (vc_ok mixed _ _ _ _ ?_)
            simp only [sz.down, Nat.reduceLT, TEP]
            refine awp_bareAt 8 1 (by simp only [sz.down, ↓reduceIte]) ?_
            refine awp_seq (vc_ok mixed _ _ _ _ ?_)
            simp only [sz.down, Nat.reduceLT, Nat.reduceAdd, TEP, hd]
            generalize hl : w.steps[i] = l at *
            refine awp_loop (fun k f h => ∃ j, k + j = l.length ∧ f.t 3 = .lp 1 0 ∧ f.t 4 = .lp 2 0 ∧ f.t 5 = .lp 3 0 ∧ f.t 7 = vi i ∧ f.t 8 = .ls 6 1 0 j j ∧ f.t 9 = vi j ∧ f.d = [] ∧ h = [O.cells [vi m.g.ins, ints m.g.next, ints m.g.init, prs m.g.ands, ints m.g.outs, strs m.ins, strs m.lat, strs m.out], O.cells [vi w.bad, ints w.st, cls w.steps], .cells [.nils, .nils], .cells [.ls 4 1 0 w.st.length w.st.length, .ls 5 1 0 i i], .cells C, .cells D, .cells ((insB (l.take j)).map V.bool)]) l.length ⟨0, by omega, by simp only [sz.down, ↓reduceIte, Nat.reduceEqDiff, h3], by simp only [sz.down, ↓reduceIte, Nat.reduceEqDiff, h4], by simp only [sz.down, ↓reduceIte, Nat.reduceEqDiff, h5], by simp only [sz.down, ↓reduceIte, Nat.reduceEqDiff, h7], by simp only [sz.down, ↓reduceIte, Nat.reduceEqDiff], by simp only [sz.down, ↓reduceIte]; rfl, by simp only [sz.down], rfl⟩ ?_
            rintro k2 f h ⟨j, hk2, h3, h4, h5, h7, h8, h9, hd, rfl⟩
            refine vc_ok mixed _ _ _ _ ?_
            simp only [sz.down, ↓reduceIte, Nat.reduceEqDiff, Nat.reduceLT, Nat.reduceAdd, TEP, tis, h3, h7, h9, hgl]
            refine ⟨⟨by omega, by omega⟩, ?_⟩
            refine vcB.mk (fun hlt2 => ?_) (fun hlt2 => ?_)
            · simp only [decide_eq_true_eq, Int.ofNat_lt] at hlt2
              have hgj : (l.map vi).getD j .any = vi l[j] := getI hlt2 _
              have hw := wrap_succ (show j < maxLen by omega)
              have key : insB (l.take (j + 1)) = insB (l.take j) ++ [l[j] == 1] := by unfold insB; rw [List.take_add_one, List.map_append]; simp [hlt2]
              have hil : (insB (l.take j)).length = j := by simp [insB]; omega
              simp only [sz.down, ↓reduceIte, Nat.reduceEqDiff, Nat.reduceLT, Nat.reduceAdd, Nat.reduceBEq, reduceCtorEq, Nat.reduceMul, TEP, tis, h3, h7, h8, h9, hd, hgl, hgj, hw, drops_b, hdr, dC]
              refine ⟨⟨by omega, by omega⟩, ⟨by omega, by omega⟩, ⟨rfl, by decide⟩, ⟨by omega, by omega, by omega⟩, .inl ⟨k2 - 1, by omega, j + 1, by omega, by simp only [sz.down, ↓reduceIte, Nat.reduceEqDiff, Nat.reduceBEq, h3], by simp only [sz.down, ↓reduceIte, Nat.reduceEqDiff, Nat.reduceBEq, h4], by simp only [sz.down, ↓reduceIte, Nat.reduceEqDiff, Nat.reduceBEq, h5], by simp only [sz.down, ↓reduceIte, Nat.reduceEqDiff, h7], by simp only [sz.down, ↓reduceIte, Nat.reduceEqDiff], by simp only [sz.down, ↓reduceIte], by simp only [sz.down, hd], ?_⟩⟩
              rw [key, List.map_append]; rfl
            · simp only [decide_eq_false_iff_not, Int.ofNat_lt] at hlt2
              have hj : j = l.length := by omega
              subst hj
              have hil : (insB l).length = l.length := by simp [insB]
              simp only [sz.down, List.take_length]
              refine awp_popAt (h0 := [O.cells [vi m.g.ins, ints m.g.next, ints m.g.init, prs m.g.ands, ints m.g.outs, strs m.ins, strs m.lat, strs m.out], O.cells [vi w.bad, ints w.st, cls w.steps], .cells [.nils, .nils], .cells [.ls 4 1 0 w.st.length w.st.length, .ls 5 1 0 i i], .cells C, .cells D]) 8 (bools (insB l)) (by simp only [sz.down, Nat.reduceAdd, hd]) (by simp only [sz.down, ↓reduceIte, Nat.reduceEqDiff, Nat.reduceAdd, h8, from_]) ?_ ?_
              · simp only [sz.down, ↓reduceIte, Nat.reduceEqDiff, Nat.reduceAdd, h8]
                exact reif_bools ((keepP_last (h0 := [_, _, _, _, _, _])).trans (by rw [drops_b])) (by omega)
              · refine vc_ok mixed _ _ _ _ ?_
                simp only [sz.down, ↓reduceIte, Nat.reduceEqDiff, Nat.reduceLT, Nat.reduceLeDiff, Nat.reduceAdd, Nat.reduceBEq, reduceCtorEq, Nat.reduceMul, TEP, tis, from_, h5, hd, hdr, dC]
                refine ⟨⟨rfl, by decide⟩, ⟨by omega, by omega, by omega⟩, ?_⟩
                have hw := wrap_succ (show i < maxLen by omega)
                refine vc_ok mixed _ _ _ _ ?_
                simp only [sz.down, ↓reduceIte, Nat.reduceEqDiff, Nat.reduceLT, TEP, h7, hw]
                refine .inl ⟨k - 1, by omega, i + 1, by omega, by simp only [sz.down, ↓reduceIte, Nat.reduceEqDiff, Nat.reduceLeDiff, Nat.reduceBEq, from_, h3], by simp only [sz.down, ↓reduceIte, Nat.reduceEqDiff, Nat.reduceLeDiff, Nat.reduceBEq, from_, h4], by simp only [sz.down, ↓reduceIte, Nat.reduceEqDiff, Nat.reduceLeDiff, Nat.reduceBEq, from_, h5], by simp only [sz.down, ↓reduceIte], by simp only [sz.down], ?_⟩
                rw [hD, List.take_add_one, List.map_append]
                simp [hlt, hl]
          · simp only [decide_eq_false_iff_not, Int.ofNat_lt] at hlt
            have hi : i = w.steps.length := by omega
            subst hi
            simp only [sz.down, ↓reduceIte, Nat.reduceEqDiff]
            rw [List.take_length]
            exact ⟨h4, h5, hd, rfl⟩
      · rw [hHH]
        refine vc_ok mixed _ _ _ _ ?_
        simp only [sz.down, ↓reduceIte, Nat.reduceEqDiff, Nat.reduceLT, TEP, h3, h4, h5, hd]
    · refine awp_block ?_
      refine awp_loop (fun k f h => ∃ i, k + i = w.st.length ∧ f.t 2 = .lp 0 0 ∧ f.t 3 = .lp 1 0 ∧ f.t 4 = .lp 2 0 ∧ f.t 5 = .lp 3 0 ∧ f.t 6 = vi i ∧ f.d = [] ∧ h = HH i 0 ((stB m w i).map V.bool) []) w.st.length ⟨0, by omega, h2, h3, h4, h5, h6, hd, rfl⟩ ?_
      rintro k f h ⟨i, hk, h2, h3, h4, h5, h6, hd, rfl⟩
      refine awp_seq ?_
      rw [hHH]
      refine vc_ok mixed _ _ _ _ ?_
      simp only [sz.down, ↓reduceIte, Nat.reduceEqDiff, Nat.reduceLT, Nat.reduceLeDiff, Nat.reduceAdd, TEP, tis, h3, h6]
      refine vcB.mk (fun hlt => ?_) (fun hlt => ?_)
      · simp only [decide_eq_true_eq, Int.ofNat_lt] at hlt
        have hli : i < m.g.init.length := by omega
        have hg1 : (m.g.init.map vi).getD i .any = vi m.g.init[i] := getI hli _
        have hg2 : (w.st.map vi).getD i .any = vi w.st[i] := getI hlt _
        have hge : m.g.init.getD i 0 = m.g.init[i] := getD_at (by omega)
        have hge2 : w.st.getD i 0 = w.st[i] := getD_at hlt
        have hw := wrap_succ (show i < maxLen by omega)
        have key : ∀ b, stv m.g.init[i] w.st[i] = b → stB m w (i + 1) = stB m w i ++ [b] := fun b hb => by rw [stB_succ, hge, hge2, hb]
        have hsl : (stB m w i).length = i := stB_len
        refine awp_seq (awp_block ?_)
        refine awp_late3 mixed 26 (.one 26 <| .take 27 <| .one 28 <| .fin) (fun f' h' => f'.t 2 = .lp 0 0 ∧ f'.t 3 = .lp 1 0 ∧ f'.t 4 = .lp 2 0 ∧ f'.t 5 = .lp 3 0 ∧ f'.t 6 = vi i ∧ f'.d = [] ∧ h' = HH (i + 1) 0 ((stB m w (i + 1)).map V.bool) []) (by decide +kernel) ?_ ?_
        · intro K hK
          simp only [List.take_succ_cons, List.take_zero]
          simp only [sz.down, ↓reduceIte, Nat.reduceEqDiff, Nat.reduceLT, Nat.reduceLeDiff, Nat.reduceAdd, reduceCtorEq, Nat.reduceMul, TEP, tis, h2, h3, h5, h6, hg1, hg2]
          refine ⟨⟨by omega, by omega⟩, fun h => ⟨h, by omega, by omega⟩, fun h => ⟨h, by omega, by omega⟩, fun h => ⟨h, fun h2 => ?_⟩, ⟨rfl, by decide⟩, hK _ ?_⟩
          · rw [h, h2]; rfl
          · simp only [sz.down, ↓reduceIte, Nat.reduceEqDiff, Nat.reduceLT, Nat.reduceLeDiff, Nat.reduceAdd, Nat.reduceBEq, TEP, tis, drops_b, h2, h3, h4, h5, h6, hd]
            refine ⟨⟨by omega, by omega, by omega⟩, ?_⟩
            rw [key _ rfl, hHH, List.map_append]
            rfl
        · rintro f h ⟨h2, h3, h4, h5, h6, hd, rfl⟩
          show awp _ _ _ _ _ _ _
          rw [hHH]
          refine vc_ok mixed _ _ _ _ ?_
          simp only [sz.down, ↓reduceIte, Nat.reduceLT, TEP, h6, hw]
          exact .inl ⟨k - 1, by omega, i + 1, by omega, by simp only [sz.down, ↓reduceIte, Nat.reduceEqDiff, h2], by simp only [sz.down, ↓reduceIte, Nat.reduceEqDiff, h3], by simp only [sz.down, ↓reduceIte, Nat.reduceEqDiff, h4], by simp only [sz.down, ↓reduceIte, Nat.reduceEqDiff, h5], by simp only [sz.down, ↓reduceIte], by simp only [sz.down, hd], rfl⟩
      · simp only [decide_eq_false_iff_not, Int.ofNat_lt] at hlt
        have hi : i = w.st.length := by omega
        subst hi
        simp only [sz.down, ↓reduceIte, Nat.reduceEqDiff]
        exact ⟨h2, h3, h4, h5, hd, rfl⟩
  · rw [hHH]
    refine vc_ok mixed _ _ _ _ ?_
    simp only [sz.down, ↓reduceIte, Nat.reduceEqDiff, Nat.reduceLT, TEP]

set_option maxHeartbeats 4000000 in
theorem ev_rStart (m : Mo) (w : Wi) (hb : m.Bd) (hl : w.steps.length ≤ 1000) : Ev TE 39 [m.v, w.v] (Wi.startV m w) := by
  have hfit := ev_rfits m w hb hl
  have hst := fun h => ev_rstart m w h
  unfold Mo.v Wi.v at *
  refine Ev.of_awp Tryz.func39 rfl (by simp [nts]) (vc_ok mixed _ _ _ _ ?_)
  simp only [sz.down, ↓reduceIte, Nat.reduceEqDiff, Nat.reduceLT, Nat.reduceAdd, reduceCtorEq, TEP, tis, ens, nts, Tryz.results39]
  refine ACalls.ev hfit rfl ?_
  simp only [sz.down, ↓reduceIte, Nat.reduceLT, TEP]
  refine vcB.mk (fun hc => ?_) (fun hc => ?_)
  · have hc : Wi.fits m w ≠ 0 := by simpa using hc
    simp only [sz.down, ↓reduceIte, Nat.reduceEqDiff, Nat.reduceLT, TEP]
    unfold Wi.startV
    rw [if_neg hc]
    exact Reif.tup (Reifs.cons Reif.nils (Reifs.cons Reif.nils (Reifs.dat rfl)))
  · have hc : Wi.fits m w = 0 := by simpa using hc
    simp only [sz.down, ↓reduceIte, Nat.reduceEqDiff, Nat.reduceLT, Nat.reduceAdd, reduceCtorEq, TEP, tis, ens]
    refine ACalls.ev (hst (fit_of hc)) rfl ?_
    simp only [sz.down, ↓reduceIte, Nat.reduceEqDiff, Nat.reduceLT, Nat.reduceLeDiff, Nat.reduceAdd, TEP, tis]
    refine ⟨by decide +kernel, ?_⟩
    unfold Wi.startV
    rw [if_pos hc]
    exact Reif.dat (by simp only [V.dat, V.dats, Bool.and_self])

set_option maxHeartbeats 4000000 in
theorem ev_rReplay (m : Mo) (w : Wi) (hb : m.Bd) (hl : w.steps.length ≤ 1000) : Ev TE 41 [m.v, w.v] (Wi.replayV m w) := by
  have hM : maxLen = 9223372036854775807 := rfl
  have hfit := ev_rfits m w hb hl
  have hst := fun h => ev_rstart m w h
  have hsp := fun st ins => ev_rstep m.g st ins hb.bn hb.bi hb.ba hb.bo
  unfold Mo.v Wi.v Gr.v at *
  refine Ev.of_awp Tryz.func41 rfl (by simp [nts]) (vc_ok mixed _ _ _ _ ?_)
  simp only [sz.down, ↓reduceIte, Nat.reduceEqDiff, Nat.reduceLT, Nat.reduceAdd, reduceCtorEq, TEP, tis, ens, nts, Tryz.results41]
  refine ACalls.ev hfit rfl ?_
  simp only [sz.down, ↓reduceIte, Nat.reduceLT, TEP]
  refine vcB.mk (fun hc => ?_) (fun hc => ?_)
  · have hc : Wi.fits m w ≠ 0 := by simpa using hc
    simp only [sz.down, ↓reduceIte, Nat.reduceEqDiff, Nat.reduceLT, TEP]
    unfold Wi.replayV
    rw [if_neg hc]
    exact Reif.dat rfl
  · have hc : Wi.fits m w = 0 := by simpa using hc
    have ft := fit_of hc
    have hql : w.seq.length = w.steps.length := by simp [Wi.seq]
    have hsl : (w.state m).length = m.g.next.length := by rw [← ft.lat, ← ft.st]; exact stB_len
    have hql2 : ∀ ins ∈ w.seq, (ins.length : Int) = m.g.ins := fun ins hi => by
      simp only [Wi.seq, List.mem_map] at hi
      obtain ⟨l, hl, rfl⟩ := hi
      have := (ft.row l hl).1
      rw [← ft.ins]
      simp only [insB, List.length_map]
      omega
    have f2 := ft.s2
    simp only [sz.down, ↓reduceIte, Nat.reduceEqDiff, Nat.reduceLT, Nat.reduceAdd, reduceCtorEq, TEP, tis, ens]
    refine ACalls.ev (hst ft) rfl ?_
    simp only [sz.down, ↓reduceIte, Nat.reduceEqDiff, Nat.reduceLT, Nat.reduceLeDiff, Nat.reduceAdd, TEP, tis]
    obtain ⟨S0, hS0⟩ : ∃ S0, S0 = w.state m := ⟨_, rfl⟩
    rw [← hS0] at hsl ⊢
    refine awp_loop (fun k f h => ∃ i, k + i = w.seq.length ∧ f.t 2 = .lp 0 0 ∧ f.t 3 = .lp 1 0 ∧ f.t 7 = .lp 2 0 ∧ f.t 8 = bools (m.g.run S0 (w.seq.take i)).2 ∧ f.t 10 = vi i ∧ (0 < i → f.t 9 = .bool ((m.g.run S0 (w.seq.take i)).1.getD w.bad.toNat false)) ∧ f.d = [] ∧ h = [O.cells [vi m.g.ins, ints m.g.next, ints m.g.init, prs m.g.ands, ints m.g.outs, strs m.ins, strs m.lat, strs m.out], O.cells [vi w.bad, ints w.st, cls w.steps], O.cells [bools S0, rwB w.seq]]) w.seq.length ⟨0, by omega, by simp only [sz.down, ↓reduceIte, Nat.reduceEqDiff], by simp only [sz.down, ↓reduceIte, Nat.reduceEqDiff], by simp only [sz.down, ↓reduceIte, Nat.reduceEqDiff], by simp only [sz.down, ↓reduceIte, Nat.reduceEqDiff]; rfl, by simp only [sz.down, ↓reduceIte]; rfl, fun h => absurd h (Nat.lt_irrefl 0), by simp only [sz.down], rfl⟩ ?_
    rintro k f h ⟨i, hk, h2, h3, h7, h8, h10, h9, hd, rfl⟩
    refine vc_ok mixed _ _ _ _ ?_
    simp only [sz.down, ↓reduceIte, Nat.reduceEqDiff, Nat.reduceLT, Nat.reduceAdd, TEP, tis, h7, h10]
    refine vcB.mk (fun hlt => ?_) (fun hlt => ?_)
    · simp only [decide_eq_true_eq, Int.ofNat_lt] at hlt
      have hw := wrap_succ (show i < maxLen by omega)
      have hgi : (w.seq.map fun c => bools c).getD i .any = bools w.seq[i] := getRw hlt _
      have hrl := Gr.run_len ft.g hsl hql2 i (by omega)
      have hst := Gr.step_ok ft.g hrl.1 (hql2 _ (List.getElem_mem hlt))
      have hsp' := hsp (m.g.run S0 (w.seq.take i)).2 w.seq[i]
      obtain ⟨O1, hO1⟩ : ∃ O1, O1 = m.g.out (m.g.run S0 (w.seq.take i)).2 w.seq[i] := ⟨_, rfl⟩
      obtain ⟨X1, hX1⟩ : ∃ X1, X1 = m.g.nxt (m.g.run S0 (w.seq.take i)).2 w.seq[i] := ⟨_, rfl⟩
      have hO1l := hst.2.1
      rw [← hO1] at hO1l hsp'
      rw [← hX1] at hsp'
      obtain ⟨b, hb⟩ : ∃ b : Nat, w.bad = b := ⟨w.bad.toNat, by have := ft.bad0; omega⟩
      have b1 := ft.bad1
      have b2 := ft.out
      have hbl : b < O1.length := by omega
      simp only [sz.down, ↓reduceIte, Nat.reduceEqDiff, Nat.reduceLT, Nat.reduceLeDiff, Nat.reduceAdd, reduceCtorEq, TEP, tis, h2, h7, h8, h10, hgi]
      refine ⟨by decide +kernel, ⟨by omega, by omega⟩, vcEv.mk hsp' rfl (by simp only [V.dats, V.dat, Bool.and_self]) ?_⟩
      simp only [sz.down, ↓reduceIte, Nat.reduceEqDiff, Nat.reduceLT, Nat.reduceLeDiff, Nat.reduceAdd, TEP, tis, h3, h10, hb, getB hbl, hw]
      refine ⟨⟨by omega, by omega⟩, .inl ⟨k - 1, by omega, i + 1, by omega, by simp only [sz.down, ↓reduceIte, Nat.reduceEqDiff, h2], by simp only [sz.down, ↓reduceIte, Nat.reduceEqDiff, h3], by simp only [sz.down, ↓reduceIte, Nat.reduceEqDiff, h7], ?_, by simp only [sz.down, ↓reduceIte], fun _ => ?_, by simp only [sz.down, hd], rfl⟩⟩
      · rw [Gr.run_succ hlt, hX1]; rfl
      · rw [Gr.run_succ hlt, ← hO1, getD_at hbl]; rfl
    · simp only [decide_eq_false_iff_not, Int.ofNat_lt] at hlt
      have hi : i = w.seq.length := by omega
      subst hi
      have h9 := h9 (by rw [hql]; exact ft.s1)
      rw [List.take_length] at h9
      simp only [sz.down, ↓reduceIte, Nat.reduceEqDiff, Nat.reduceLT, TEP, h9, hd]
      unfold Wi.replayV Wi.comes
      rw [if_pos hc, ← hS0]
      exact Reif.dat rfl

end Go.Proofs.YtboolnpmlmgpkaaGreatDoor

set_option linter.unusedVariables false
set_option maxRecDepth 20000
set_option linter.unusedSimpArgs false
set_option linter.unnecessarySimpa false
namespace Go.Proofs.YtboolnpmlmgpkaaGreatDoor
open Go Go.Proofs Go.Abs

theorem sortS_perm {a b : List S} (h : a.Perm b) : sortS a = sortS b := by
  unfold sortS
  have h := (List.mergeSort_perm a fun x y => decide (x ≤ y)).trans (h.trans (List.mergeSort_perm b fun x y => decide (x ≤ y)).symm)
  refine List.Perm.eq_of_pairwise (le := fun x y => decide (x ≤ y) = true) ?_ ?_ ?_ h
  · intro a b _ _ h1 h2
    exact List.le_antisymm (by simpa using h1) (by simpa using h2)
  · exact List.pairwise_mergeSort (fun a b c h1 h2 => by simp only [decide_eq_true_eq] at h1 h2 ⊢; exact List.le_trans h1 h2) (fun a b => by simp only [Bool.or_eq_true, decide_eq_true_eq]; exact List.le_total a b) _
  · exact List.pairwise_mergeSort (fun a b c h1 h2 => by simp only [decide_eq_true_eq] at h1 h2 ⊢; exact List.le_trans h1 h2) (fun a b => by simp only [Bool.or_eq_true, decide_eq_true_eq]; exact List.le_total a b) _
theorem sub_perm : ∀ {a b : List S}, a.Nodup → (∀ s ∈ a, s ∈ b) → a.length = b.length → a.Perm b
  | [], b, _, _, h => by
    have : b = [] := List.length_eq_zero_iff.1 h.symm
    rw [this]
  | x :: a, b, hn, hs, h => by
    have hx : x ∈ b := hs x (by simp)
    have p := List.perm_cons_erase hx
    have hl : (b.erase x).length = b.length - 1 := List.length_erase_of_mem hx
    have hn' := List.nodup_cons.1 hn
    refine (List.Perm.cons x (sub_perm hn'.2 (fun s h' => ?_) ?_)).trans p.symm
    · have hsx : s ≠ x := fun e => hn'.1 (e ▸ h')
      exact (List.mem_erase_of_ne hsx).2 (hs s (by simp [h']))
    · rw [hl, ← h]; simp
theorem idx_nonneg {l : List S} {s : S} : decide (idx l (· == s) < 0) = !decide (s ∈ l) := by
  by_cases h : s ∈ l
  · obtain ⟨i, hi, _⟩ := idx_mem h
    rw [hi, decide_eq_true h, decide_eq_false (show ¬ (i : Int) < 0 by omega)]; rfl
  · have : idx l (· == s) = -1 := by
      unfold idx
      cases hf : l.findIdx? (· == s) with
      | none => rfl
      | some i =>
        obtain ⟨hi, hb, _⟩ := List.findIdx?_eq_some_iff_getElem.1 hf
        have : l[i] = s := by simpa using hb
        exact absurd (this ▸ List.getElem_mem hi) h
    rw [this, decide_eq_false h]; rfl
theorem alikeR_eq {a b : List S} (ha : a.Nodup) : alikeR a b = (sortS a == sortS b) := by
  rw [Bool.eq_iff_iff]
  unfold alikeR
  simp only [Bool.and_eq_true, Bool.not_eq_true', List.any_eq_false, idx_nonneg, Bool.not_eq_true', Bool.not_eq_false, decide_eq_true_eq, beq_iff_eq, Int.natCast_inj]
  constructor
  · rintro ⟨h1, h2⟩
    exact sortS_perm (sub_perm ha (by simpa using h1) h2)
  · intro h
    have hp : a.Perm b := (List.mergeSort_perm a fun x y => decide (x ≤ y)).symm.trans (by unfold sortS at h; rw [h]; exact List.mergeSort_perm b _)
    exact ⟨by simpa using fun s hs => hp.mem_iff.1 hs, hp.length_eq⟩

set_option maxHeartbeats 8000000 in
theorem ev_rRename (m k : Mo) (w : Wi) (hb : m.Bd) (hb2 : k.Bd) (hl : w.steps.length ≤ 1000) : Ev TE 43 [m.v, k.v, w.v] (.tup [(renR m k w).1.v, vi (renR m k w).2]) := by
  have hM : maxLen = 9223372036854775807 := rfl
  have hmc := ev_r11check m hb.bn hb.bi hb.ba hb.bo hb.b1 hb.b2 hb.b3
  have hkc := ev_r11check k hb2.bn hb2.bi hb2.ba hb2.bo hb2.b1 hb2.b2 hb2.b3
  have hsz := ev_rsizes m w hl
  unfold Mo.v Wi.v at *
  refine Ev.of_awp Tryz.func43 rfl (by simp [nts]) ?_
  
  refine awp_seq (vc_ok mixed _ _ _ _ ?_)
  simp only [sz.down, ↓reduceIte, Nat.reduceEqDiff, Nat.reduceLT, Nat.reduceAdd, TEP, tis, nts, Tryz.results43]
  refine awp_seq (vc_ok mixed _ _ _ _ ?_)
  simp only [sz.down, ↓reduceIte, Nat.reduceEqDiff, Nat.reduceLT, Nat.reduceAdd, reduceCtorEq, TEP, tis, ens]
  refine ACalls.ev hmc rfl ?_
  simp only [sz.down, ↓reduceIte, Nat.reduceLT, TEP]
  refine awp_seq (vc_ok mixed _ _ _ _ ?_)
  simp only [sz.down, ↓reduceIte, Nat.reduceLT, TEP]
  refine vcB.mk (fun hc => ?_) (fun hc => ?_)
  · have hc : m.chk ≠ 0 := by simpa using hc
    unfold renR
    rw [if_pos hc]
    simp only [sz.down, ↓reduceIte, Nat.reduceEqDiff, Nat.reduceLT, Nat.reduceAdd, reduceCtorEq, TEP, tis]
    exact Reif.tup (Reifs.cons (Reif.agg (Reifs.cons (Reif.dat rfl) (Reifs.cons Reif.nils (Reifs.cons Reif.nils Reifs.nil)))) (Reifs.dat rfl))
  have h1 : m.chk = 0 := by simpa using hc
  simp only [sz.down]
  refine awp_seq (vc_ok mixed _ _ _ _ ?_)
  simp only [sz.down, ↓reduceIte, Nat.reduceEqDiff, Nat.reduceLT, Nat.reduceAdd, reduceCtorEq, TEP, tis, ens]
  refine ACalls.ev hkc rfl ?_
  simp only [sz.down, ↓reduceIte, Nat.reduceLT, TEP]
  refine awp_seq (vc_ok mixed _ _ _ _ ?_)
  simp only [sz.down, ↓reduceIte, Nat.reduceLT, TEP]
  refine vcB.mk (fun hc => ?_) (fun hc => ?_)
  · have hc : k.chk ≠ 0 := by simpa using hc
    unfold renR
    rw [if_neg (by simp [h1]), if_pos hc]
    simp only [sz.down, ↓reduceIte, Nat.reduceEqDiff, Nat.reduceLT, Nat.reduceAdd, reduceCtorEq, TEP, tis]
    exact Reif.tup (Reifs.cons (Reif.agg (Reifs.cons (Reif.dat rfl) (Reifs.cons Reif.nils (Reifs.cons Reif.nils Reifs.nil)))) (Reifs.dat rfl))
  have h2 : k.chk = 0 := by simpa using hc
  obtain ⟨b1, b2, b3⟩ := Mo.small h1
  obtain ⟨d1, d2, d3⟩ := Mo.small h2
  obtain ⟨n1, n2⟩ := Mo.ndR h1
  have n3 := (List.nodup_append.1 n1).1
  have n4 := (List.nodup_append.1 n1).2.1
  have eR : Wi.sized m w = false → renR m k w = (⟨0, [], []⟩, 1) := fun h => by
    unfold renR
    rw [if_neg (by simp [h1]), if_neg (by simp [h2]), if_pos h]
  have eA : Wi.sized m w = true → m.alike k = false → renR m k w = (⟨0, [], []⟩, 12) := fun h h' => by
    unfold renR
    rw [if_neg (by simp [h1]), if_neg (by simp [h2]), if_neg (by simp [h]), if_pos h']
  simp only [sz.down]
  refine awp_seq (vc_ok mixed _ _ _ _ ?_)
  simp only [sz.down, ↓reduceIte, Nat.reduceEqDiff, Nat.reduceLT, Nat.reduceAdd, reduceCtorEq, TEP, tis, ens]
  refine ACalls.ev hsz rfl ?_
  cases hz : Wi.sized m w with
  | false =>
    rw [eR hz]
    simp only [sz.down, ↓reduceIte, Nat.reduceEqDiff, Nat.reduceLT, Nat.reduceAdd, reduceCtorEq, TEP, tis]
    exact Reif.tup (Reifs.cons (Reif.agg (Reifs.cons (Reif.dat rfl) (Reifs.cons Reif.nils (Reifs.cons Reif.nils Reifs.nil)))) (Reifs.dat rfl))
  | true =>
  simp only [sz.down, ↓reduceIte, Nat.reduceLT, TEP]
  refine awp_seq (vc_ok mixed _ _ _ _ ?_)
  simp only [sz.down, ↓reduceIte, Nat.reduceEqDiff, Nat.reduceLT, Nat.reduceLeDiff, Nat.reduceAdd, TEP, tis, ens]
  refine ACalls.ev (ev_ralike m.ins k.ins) rfl ?_
  rw [alikeR_eq n3]
  cases e1 : (sortS m.ins == sortS k.ins) with
  | false =>
    rw [eA hz (by unfold Mo.alike; rw [e1]; rfl)]
    simp only [sz.down, ↓reduceIte, Nat.reduceEqDiff, Nat.reduceLT, Nat.reduceLeDiff, Nat.reduceAdd, reduceCtorEq, TEP, tis]
    repeat (refine ⟨.bool true, ?_⟩; simp only [sz.down, ↓reduceIte, Nat.reduceEqDiff, Nat.reduceLT, Nat.reduceAdd, reduceCtorEq, TEP, tis])
    exact Reif.tup (Reifs.cons (Reif.agg (Reifs.cons (Reif.dat rfl) (Reifs.cons Reif.nils (Reifs.cons Reif.nils Reifs.nil)))) (Reifs.dat rfl))
  | true =>
  simp only [sz.down, ↓reduceIte, Nat.reduceEqDiff, Nat.reduceLT, Nat.reduceLeDiff, Nat.reduceAdd, TEP, tis, ens]
  refine ACalls.ev (ev_ralike m.lat k.lat) rfl ?_
  rw [alikeR_eq n4]
  cases e2 : (sortS m.lat == sortS k.lat) with
  | false =>
    rw [eA hz (by unfold Mo.alike; rw [e1, e2]; rfl)]
    simp only [sz.down, ↓reduceIte, Nat.reduceEqDiff, Nat.reduceLT, Nat.reduceAdd, reduceCtorEq, TEP, tis]
    repeat (refine ⟨.bool true, ?_⟩; simp only [sz.down, ↓reduceIte, Nat.reduceEqDiff, Nat.reduceLT, Nat.reduceAdd, reduceCtorEq, TEP, tis])
    exact Reif.tup (Reifs.cons (Reif.agg (Reifs.cons (Reif.dat rfl) (Reifs.cons Reif.nils (Reifs.cons Reif.nils Reifs.nil)))) (Reifs.dat rfl))
  | true =>
  simp only [sz.down, ↓reduceIte, Nat.reduceEqDiff, Nat.reduceLT, Nat.reduceAdd, TEP, tis, ens]
  refine ACalls.ev (ev_ralike m.out k.out) rfl ?_
  rw [alikeR_eq n2]
  cases e3 : (sortS m.out == sortS k.out) with
  | false =>
    rw [eA hz (by unfold Mo.alike; rw [e1, e2, e3]; rfl)]
    simp only [sz.down, ↓reduceIte, Nat.reduceEqDiff, Nat.reduceLT, Nat.reduceAdd, reduceCtorEq, TEP, tis]
    exact Reif.tup (Reifs.cons (Reif.agg (Reifs.cons (Reif.dat rfl) (Reifs.cons Reif.nils (Reifs.cons Reif.nils Reifs.nil)))) (Reifs.dat rfl))
  | true =>
  simp only [sz.down, ↓reduceIte, Nat.reduceEqDiff, Nat.reduceLT, TEP]
  obtain ⟨s1, s2, s3, s4, s5, s6, s7⟩ := sized_parts hz
  obtain ⟨nb, hnb⟩ : ∃ nb : Nat, w.bad = nb := ⟨w.bad.toNat, by omega⟩
  have hnl : nb < m.out.length := by omega
  have er : renR m k w = (Wi.ren m k w, 0) := by
    unfold renR
    rw [if_neg (by simp [h1]), if_neg (by simp [h2]), if_neg (by simp [hz]), if_neg (by unfold Mo.alike; rw [e1, e2, e3]; decide)]
  have eb : (Wi.ren m k w).bad = idx k.out (· == m.out[nb]) := by
    unfold Wi.ren
    rw [hnb, Int.toNat_natCast]
    simp [List.getD_eq_getElem?_getD, hnl]
  have l2 := alike_len e2
  rw [er, hnb]
  refine awp_seq (awp_lateA mixed 17 10 ⟨.struct [(0, 3), (1, 22), (2, 52)], 3, 56, .agg [vi 0, .nils, .nils]⟩ (AlOk.mk' 57 rfl (by simp only [sz.down, TEP, tis]) (by rfl) (by decide +kernel)) (by decide +kernel) ?_)
  simp only [List.size_toArray, List.length_cons, List.length_nil, Nat.reduceAdd, Nat.reduceSub, List.take_succ_cons, List.take_zero]
  simp only [sz.down, ↓reduceIte, Nat.reduceEqDiff, Nat.reduceLT, Nat.reduceLeDiff, Nat.reduceAdd, TEP, tis, vcQuietL, isAlloc, getS hnl]
  refine ⟨⟨by omega, by omega⟩, vcEv.mk (ev_rplace k.out m.out[nb]) rfl rfl ?_⟩
  simp only [sz.down, ↓reduceIte, Nat.reduceEqDiff, Nat.reduceLeDiff, Nat.reduceAdd]
  refine vcEv.mk (ev_rmoved m.lat k.lat w.st (alike_mem e2) (by omega) (by omega)) rfl (by simp only [V.dats, V.dat, Bool.and_self]) ?_
  simp only [sz.down, ↓reduceIte, Nat.reduceEqDiff, Nat.reduceLeDiff, Nat.reduceAdd]
  obtain ⟨st', hst⟩ : ∃ st', st' = moveV m.lat k.lat w.st := ⟨_, rfl⟩
  obtain ⟨bd, hbd⟩ : ∃ bd, bd = idx k.out (· == m.out[nb]) := ⟨_, rfl⟩
  rw [← hst, ← hbd]
  refine awp_bare ?_
  refine awp_leH (h' := [O.cells [vi m.g.ins, ints m.g.next, ints m.g.init, prs m.g.ands, ints m.g.outs, strs m.ins, strs m.lat, strs m.out], O.cells [vi k.g.ins, ints k.g.next, ints k.g.init, prs k.g.ands, ints k.g.outs, strs k.ins, strs k.lat, strs k.out], O.cells [vi nb, ints w.st, cls w.steps], O.cells [vi 0, .nils, .nils], .cells [vi bd, ints st', .ls 5 1 0 0 0], .cells []])
    (HLe.set (i := 4) (o' := .cells [vi bd, ints st', .ls 5 1 0 0 0]) rfl (OLe.cells (Nat.le_refl _) (VLes.cons (VLe.refl _) (VLes.cons (VLe.refl _) (VLes.cons VLe.nil_ls (VLes.refl _)))))) ?_
  refine awp_seq (awp_seq (awp_mono (Q := fun xe f' h' => xe = .normal ∧ f'.t 3 = .lp 0 0 ∧ f'.t 4 = .lp 1 0 ∧ f'.t 5 = .lp 2 0 ∧ f'.t 6 = .lp 3 0 ∧ f'.t 10 = .lp 4 0 ∧ f'.t 11 = vi 0 ∧ f'.d = [] ∧ h' = [O.cells [vi m.g.ins, ints m.g.next, ints m.g.init, prs m.g.ands, ints m.g.outs, strs m.ins, strs m.lat, strs m.out], O.cells [vi k.g.ins, ints k.g.next, ints k.g.init, prs k.g.ands, ints k.g.outs, strs k.ins, strs k.lat, strs k.out], O.cells [vi nb, ints w.st, cls w.steps], O.cells [vi 0, .nils, .nils], .cells [vi bd, ints st', .ls 5 1 0 0 0], .cells []]) ?_ ?_))
  · rintro xe f h ⟨rfl, k3, k4, k5, k6, k10, k11, kd, rfl⟩
    show awp _ _ _ _ _ _ _
    refine awp_mono (Q := fun xe f' h' => xe = .normal ∧ f'.t 6 = .lp 3 0 ∧ f'.t 10 = .lp 4 0 ∧ f'.d = [] ∧ ∃ cs, cs = (w.steps.map (moveV m.ins k.ins)).map (fun c => ints c) ∧ h' = [O.cells [vi m.g.ins, ints m.g.next, ints m.g.init, prs m.g.ands, ints m.g.outs, strs m.ins, strs m.lat, strs m.out], O.cells [vi k.g.ins, ints k.g.next, ints k.g.init, prs k.g.ands, ints k.g.outs, strs k.ins, strs k.lat, strs k.out], O.cells [vi nb, ints w.st, cls w.steps], O.cells [vi 0, .nils, .nils], .cells [vi bd, ints st', .ls 5 1 0 w.steps.length w.steps.length], .cells cs]) ?_ ?_
    · rintro xe f h ⟨rfl, k6, k10, kd, cs, hcs, rfl⟩
      show awp _ _ _ _ _ _ _
      refine vc_ok mixed _ _ _ _ ?_
      simp only [sz.down, ↓reduceIte, Nat.reduceEqDiff, Nat.reduceLT, Nat.reduceAdd, reduceCtorEq, TEP, tis, k6, k10, kd]
      have ew : (Wi.ren m k w).v = .agg [vi bd, ints st', cls (w.steps.map (moveV m.ins k.ins))] := by
        show V.agg [vi (Wi.ren m k w).bad, _, _] = _
        rw [eb, ← hbd, hst]; rfl
      show Reif TE _ _ (.tup [(Wi.ren m k w).v, vi 0])
      rw [ew]
      refine Reif.tup (Reifs.cons (Reif.agg (Reifs.cons (Reif.dat rfl) (Reifs.cons (Reif.dat datI) (Reifs.cons (Reif.ls (by rw [hcs]; rfl) (Reifs.dat (cls_ok _).1) (cls_ok _).2.1 (cls_ok _).2.2 (by simp)) Reifs.nil)))) (Reifs.dat rfl))
    · refine awp_block ?_
      refine awp_loop (fun j f' h' => ∃ (i : Nat) (cs : List V), j + i = w.steps.length ∧ f'.t 3 = .lp 0 0 ∧ f'.t 4 = .lp 1 0 ∧ f'.t 5 = .lp 2 0 ∧ f'.t 6 = .lp 3 0 ∧ f'.t 10 = .lp 4 0 ∧ f'.t 11 = vi i ∧ f'.d = [] ∧ cs = ((w.steps.take i).map (moveV m.ins k.ins)).map (fun c => ints c) ∧ h' = [O.cells [vi m.g.ins, ints m.g.next, ints m.g.init, prs m.g.ands, ints m.g.outs, strs m.ins, strs m.lat, strs m.out], O.cells [vi k.g.ins, ints k.g.next, ints k.g.init, prs k.g.ands, ints k.g.outs, strs k.ins, strs k.lat, strs k.out], O.cells [vi nb, ints w.st, cls w.steps], O.cells [vi 0, .nils, .nils], .cells [vi bd, ints st', .ls 5 1 0 i i], .cells cs]) w.steps.length
        ⟨0, [], by omega, k3, k4, k5, k6, k10, k11, kd, rfl, rfl⟩ ?_
      rintro j f h ⟨i, cs, hj, k3, k4, k5, k6, k10, k11, kd, hcs, rfl⟩
      refine awp_seq ?_
      refine vc_ok mixed _ _ _ _ ?_
      simp only [sz.down, ↓reduceIte, Nat.reduceEqDiff, Nat.reduceLT, Nat.reduceAdd, TEP, tis, k5, k11]
      refine vcB.mk (fun hc => ?_) (fun hc => ?_)
      · simp only [decide_eq_true_eq, Int.ofNat_lt] at hc
        have hcl : cs.length = i := by rw [hcs, List.length_map, List.length_map, List.length_take]; omega
        have hdc : ∀ p, V.drops p cs = cs := fun p => by
          rw [hcs]
          induction (w.steps.take i).map (moveV m.ins k.ins) with
          | nil => rfl
          | cons c L ih => rw [List.map_cons, V.drops, ih]; rfl
        have hmv := ev_rmoved m.ins k.ins w.steps[i] (alike_mem e1) (s7 _ (List.getElem_mem hc)).1 (by omega)
        have gc := getC hc V.any
        have hw := wrap_succ (show i < maxLen by omega)
        refine awp_seq (awp_block ?_)
        refine awp_late3 mixed 13 (.one 13 <| .take 14 <| .one 15 <| .fin) (fun f' h' => f'.t 3 = .lp 0 0 ∧ f'.t 4 = .lp 1 0 ∧ f'.t 5 = .lp 2 0 ∧ f'.t 6 = .lp 3 0 ∧ f'.t 10 = .lp 4 0 ∧ f'.t 11 = vi i ∧ f'.d = [] ∧ h' = [O.cells [vi m.g.ins, ints m.g.next, ints m.g.init, prs m.g.ands, ints m.g.outs, strs m.ins, strs m.lat, strs m.out], O.cells [vi k.g.ins, ints k.g.next, ints k.g.init, prs k.g.ands, ints k.g.outs, strs k.ins, strs k.lat, strs k.out], O.cells [vi nb, ints w.st, cls w.steps], O.cells [vi 0, .nils, .nils], .cells [vi bd, ints st', .ls 5 1 0 (i + 1) (i + 1)], .cells (cs ++ [ints (moveV m.ins k.ins w.steps[i])])]) (by decide +kernel) ?_ ?_
        · intro K hK
          simp only [List.take_succ_cons, List.take_zero]
          simp only [sz.down, ↓reduceIte, Nat.reduceEqDiff, Nat.reduceLT, Nat.reduceLeDiff, Nat.reduceAdd, TEP, tis, k3, k4, k5, k10, k11, gc]
          refine ⟨⟨by omega, by omega⟩, vcEv.mk hmv rfl (by simp only [V.dats, V.dat, Bool.and_self]) ?_⟩
          simp only [sz.down, ↓reduceIte, Nat.reduceLT, reduceCtorEq, Nat.reduceMul, TEP, tis]
          refine ⟨⟨rfl, by decide⟩, hK _ ?_⟩
          simp only [sz.down, ↓reduceIte, Nat.reduceEqDiff, Nat.reduceLT, Nat.reduceAdd, Nat.reduceBEq, TEP, tis, hdc, k3, k4, k5, k6, k10, k11, kd]
          exact ⟨by omega, by omega, by omega⟩
        · rintro f h ⟨k3, k4, k5, k6, k10, k11, kd, rfl⟩
          show awp _ _ _ _ _ _ _
          refine vc_ok mixed _ _ _ _ ?_
          simp only [sz.down, ↓reduceIte, Nat.reduceLT, TEP, k11, hw]
          refine .inl ⟨j - 1, by omega, i + 1, _, by omega, by simp only [sz.down, ↓reduceIte, Nat.reduceEqDiff, k3], by simp only [sz.down, ↓reduceIte, Nat.reduceEqDiff, k4], by simp only [sz.down, ↓reduceIte, Nat.reduceEqDiff, k5], by simp only [sz.down, ↓reduceIte, Nat.reduceEqDiff, k6], by simp only [sz.down, ↓reduceIte, Nat.reduceEqDiff, k10], by simp only [sz.down, ↓reduceIte], by simp only [sz.down, kd], ?_, rfl⟩
          rw [hcs, show w.steps.take (i + 1) = w.steps.take i ++ [w.steps[i]] by rw [List.take_add_one, List.getElem?_eq_getElem hc]; rfl, List.map_append, List.map_append]
          rfl
      · simp only [decide_eq_false_iff_not, Int.ofNat_lt] at hc
        have hi : i = w.steps.length := by omega
        subst hi
        simp only [sz.down, ↓reduceIte, Nat.reduceEqDiff]
        exact ⟨k6, k10, kd, cs, by rw [hcs, List.take_length], rfl⟩
  · refine vc_ok mixed _ _ _ _ ?_
    simp only [sz.down, ↓reduceIte, Nat.reduceEqDiff, Nat.reduceLT, TEP]

end Go.Proofs.YtboolnpmlmgpkaaGreatDoor

set_option linter.unusedVariables false
set_option maxRecDepth 20000
set_option linter.unusedSimpArgs false
set_option linter.unnecessarySimpa false
namespace Go.Proofs.YtboolnpmlmgpkaaGreatDoor
open Go Go.Proofs Go.Abs

theorem fewS_len {n : Nat} {l : List S} (h : fewS n l = true) : l.length ≤ n := by
  simp only [fewS, Bool.and_eq_true, decide_eq_true_eq] at h
  first | exact h.1 | omega
theorem few_bd {m : Mo} (h : m.few = true) : m.Bd := by
  unfold Mo.few Gr.few at h
  simp only [Bool.and_eq_true, decide_eq_true_eq] at h
  obtain ⟨⟨_, h1, h2, h3, h4⟩, h5, h6, h7⟩ := h
  have h5 := fewS_len h5
  have h6 := fewS_len h6
  have h7 := fewS_len h7
  exact ⟨by omega, by omega, by omega, by omega, by omega, by omega, by omega⟩
theorem few_steps {w : Wi} (h : w.few = true) : w.steps.length ≤ 42 := by
  unfold Wi.few at h
  simp only [Bool.and_eq_true, decide_eq_true_eq] at h
  omega
theorem ia_start (m : Mo) (w : Wi) : ∃ (a : List Bool) (p : List (List Bool)) (e : Int), Wi.startV m w = .tup [bools a, rwB p, vi e] ∧ p.length ≤ w.steps.length := by
  unfold Wi.startV
  split
  · exact ⟨_, _, _, rfl, by simp [Wi.seq]⟩
  · exact ⟨_, _, _, rfl, by simp⟩
theorem ia_replay (m : Mo) (w : Wi) : ∃ (c : Bool) (e : Int), Wi.replayV m w = .tup [.bool c, vi e] := by
  unfold Wi.replayV
  split <;> exact ⟨_, _, rfl⟩
theorem ren_steps (m k : Mo) (w : Wi) : (renR m k w).1.steps.length ≤ w.steps.length := by
  unfold renR
  repeat' split
  all_goals simp [Wi.ren]

def planT13 : Plan := .alt 0 (.alt 1 (.alt 2 (.alt 3 (.alt 4 (.take 5 <| .alt 6 (.alt 7 (.one 8 <| .one 9 <| .take 10 <| .fin) (.one 8 (.alt 7 (.one 9 <| .take 10 <| .fin) (.one 9 (.one 7 <| .take 10 <| .fin))))) (.alt 7 (.alt 6 (.one 8 <| .one 9 <| .take 10 <| .fin) (.one 8 (.one 6 <| .one 9 <| .take 10 <| .fin))) (.one 8 (.alt 6 (.alt 7 (.one 9 <| .take 10 <| .fin) (.one 9 (.one 7 <| .take 10 <| .fin))) (.one 7 (.one 6 <| .one 9 <| .take 10 <| .fin)))))) (.one 8 (.one 4 <| .take 5 <| .alt 6 (.alt 7 (.one 9 <| .take 10 <| .fin) (.one 9 (.one 7 <| .take 10 <| .fin))) (.one 7 (.one 6 <| .one 9 <| .take 10 <| .fin))))) (.one 8 (.one 3 <| .one 4 <| .take 5 <| .alt 6 (.alt 7 (.one 9 <| .take 10 <| .fin) (.one 9 (.one 7 <| .take 10 <| .fin))) (.one 7 (.one 6 <| .one 9 <| .take 10 <| .fin))))) (.one 8 (.one 2 <| .one 3 <| .one 4 <| .take 5 <| .alt 6 (.alt 7 (.one 9 <| .take 10 <| .fin) (.one 9 (.one 7 <| .take 10 <| .fin))) (.one 7 (.one 6 <| .one 9 <| .take 10 <| .fin))))) (.alt 2 (.alt 1 (.alt 3 (.alt 4 (.take 5 <| .alt 6 (.alt 7 (.one 8 <| .one 9 <| .take 10 <| .fin) (.one 8 (.alt 7 (.one 9 <| .take 10 <| .fin) (.one 9 (.one 7 <| .take 10 <| .fin))))) (.alt 7 (.alt 6 (.one 8 <| .one 9 <| .take 10 <| .fin) (.one 8 (.one 6 <| .one 9 <| .take 10 <| .fin))) (.one 8 (.alt 6 (.alt 7 (.one 9 <| .take 10 <| .fin) (.one 9 (.one 7 <| .take 10 <| .fin))) (.one 7 (.one 6 <| .one 9 <| .take 10 <| .fin)))))) (.one 8 (.one 4 <| .take 5 <| .alt 6 (.alt 7 (.one 9 <| .take 10 <| .fin) (.one 9 (.one 7 <| .take 10 <| .fin))) (.one 7 (.one 6 <| .one 9 <| .take 10 <| .fin))))) (.one 8 (.one 3 <| .one 4 <| .take 5 <| .alt 6 (.alt 7 (.one 9 <| .take 10 <| .fin) (.one 9 (.one 7 <| .take 10 <| .fin))) (.one 7 (.one 6 <| .one 9 <| .take 10 <| .fin))))) (.alt 3 (.alt 1 (.alt 4 (.take 5 <| .alt 6 (.alt 7 (.one 8 <| .one 9 <| .take 10 <| .fin) (.one 8 (.alt 7 (.one 9 <| .take 10 <| .fin) (.one 9 (.one 7 <| .take 10 <| .fin))))) (.alt 7 (.alt 6 (.one 8 <| .one 9 <| .take 10 <| .fin) (.one 8 (.one 6 <| .one 9 <| .take 10 <| .fin))) (.one 8 (.alt 6 (.alt 7 (.one 9 <| .take 10 <| .fin) (.one 9 (.one 7 <| .take 10 <| .fin))) (.one 7 (.one 6 <| .one 9 <| .take 10 <| .fin)))))) (.one 8 (.one 4 <| .take 5 <| .alt 6 (.alt 7 (.one 9 <| .take 10 <| .fin) (.one 9 (.one 7 <| .take 10 <| .fin))) (.one 7 (.one 6 <| .one 9 <| .take 10 <| .fin))))) (.one 8 (.one 1 <| .one 4 <| .take 5 <| .alt 6 (.alt 7 (.one 9 <| .take 10 <| .fin) (.one 9 (.one 7 <| .take 10 <| .fin))) (.one 7 (.one 6 <| .one 9 <| .take 10 <| .fin))))) (.one 8 (.alt 1 (.one 3 <| .one 4 <| .take 5 <| .alt 6 (.alt 7 (.one 9 <| .take 10 <| .fin) (.one 9 (.one 7 <| .take 10 <| .fin))) (.one 7 (.one 6 <| .one 9 <| .take 10 <| .fin))) (.one 3 (.one 1 <| .one 4 <| .take 5 <| .alt 6 (.alt 7 (.one 9 <| .take 10 <| .fin) (.one 9 (.one 7 <| .take 10 <| .fin))) (.one 7 (.one 6 <| .one 9 <| .take 10 <| .fin)))))))) (.one 8 (.alt 1 (.one 2 <| .one 3 <| .one 4 <| .take 5 <| .alt 6 (.alt 7 (.one 9 <| .take 10 <| .fin) (.one 9 (.one 7 <| .take 10 <| .fin))) (.one 7 (.one 6 <| .one 9 <| .take 10 <| .fin))) (.one 2 (.alt 1 (.one 3 <| .one 4 <| .take 5 <| .alt 6 (.alt 7 (.one 9 <| .take 10 <| .fin) (.one 9 (.one 7 <| .take 10 <| .fin))) (.one 7 (.one 6 <| .one 9 <| .take 10 <| .fin))) (.one 3 (.one 1 <| .one 4 <| .take 5 <| .alt 6 (.alt 7 (.one 9 <| .take 10 <| .fin) (.one 9 (.one 7 <| .take 10 <| .fin))) (.one 7 (.one 6 <| .one 9 <| .take 10 <| .fin)))))))))) (.alt 1 (.alt 0 (.alt 2 (.alt 3 (.alt 4 (.take 5 <| .alt 6 (.alt 7 (.one 8 <| .one 9 <| .take 10 <| .fin) (.one 8 (.alt 7 (.one 9 <| .take 10 <| .fin) (.one 9 (.one 7 <| .take 10 <| .fin))))) (.alt 7 (.alt 6 (.one 8 <| .one 9 <| .take 10 <| .fin) (.one 8 (.one 6 <| .one 9 <| .take 10 <| .fin))) (.one 8 (.alt 6 (.alt 7 (.one 9 <| .take 10 <| .fin) (.one 9 (.one 7 <| .take 10 <| .fin))) (.one 7 (.one 6 <| .one 9 <| .take 10 <| .fin)))))) (.one 8 (.one 4 <| .take 5 <| .alt 6 (.alt 7 (.one 9 <| .take 10 <| .fin) (.one 9 (.one 7 <| .take 10 <| .fin))) (.one 7 (.one 6 <| .one 9 <| .take 10 <| .fin))))) (.one 8 (.one 3 <| .one 4 <| .take 5 <| .alt 6 (.alt 7 (.one 9 <| .take 10 <| .fin) (.one 9 (.one 7 <| .take 10 <| .fin))) (.one 7 (.one 6 <| .one 9 <| .take 10 <| .fin))))) (.one 8 (.one 2 <| .one 3 <| .one 4 <| .take 5 <| .alt 6 (.alt 7 (.one 9 <| .take 10 <| .fin) (.one 9 (.one 7 <| .take 10 <| .fin))) (.one 7 (.one 6 <| .one 9 <| .take 10 <| .fin))))) (.alt 2 (.alt 0 (.alt 3 (.alt 4 (.take 5 <| .alt 6 (.alt 7 (.one 8 <| .one 9 <| .take 10 <| .fin) (.one 8 (.alt 7 (.one 9 <| .take 10 <| .fin) (.one 9 (.one 7 <| .take 10 <| .fin))))) (.alt 7 (.alt 6 (.one 8 <| .one 9 <| .take 10 <| .fin) (.one 8 (.one 6 <| .one 9 <| .take 10 <| .fin))) (.one 8 (.alt 6 (.alt 7 (.one 9 <| .take 10 <| .fin) (.one 9 (.one 7 <| .take 10 <| .fin))) (.one 7 (.one 6 <| .one 9 <| .take 10 <| .fin)))))) (.one 8 (.one 4 <| .take 5 <| .alt 6 (.alt 7 (.one 9 <| .take 10 <| .fin) (.one 9 (.one 7 <| .take 10 <| .fin))) (.one 7 (.one 6 <| .one 9 <| .take 10 <| .fin))))) (.one 8 (.one 3 <| .one 4 <| .take 5 <| .alt 6 (.alt 7 (.one 9 <| .take 10 <| .fin) (.one 9 (.one 7 <| .take 10 <| .fin))) (.one 7 (.one 6 <| .one 9 <| .take 10 <| .fin))))) (.alt 3 (.alt 0 (.alt 4 (.take 5 <| .alt 6 (.alt 7 (.one 8 <| .one 9 <| .take 10 <| .fin) (.one 8 (.alt 7 (.one 9 <| .take 10 <| .fin) (.one 9 (.one 7 <| .take 10 <| .fin))))) (.alt 7 (.alt 6 (.one 8 <| .one 9 <| .take 10 <| .fin) (.one 8 (.one 6 <| .one 9 <| .take 10 <| .fin))) (.one 8 (.alt 6 (.alt 7 (.one 9 <| .take 10 <| .fin) (.one 9 (.one 7 <| .take 10 <| .fin))) (.one 7 (.one 6 <| .one 9 <| .take 10 <| .fin)))))) (.one 8 (.one 4 <| .take 5 <| .alt 6 (.alt 7 (.one 9 <| .take 10 <| .fin) (.one 9 (.one 7 <| .take 10 <| .fin))) (.one 7 (.one 6 <| .one 9 <| .take 10 <| .fin))))) (.one 8 (.one 0 <| .one 4 <| .take 5 <| .alt 6 (.alt 7 (.one 9 <| .take 10 <| .fin) (.one 9 (.one 7 <| .take 10 <| .fin))) (.one 7 (.one 6 <| .one 9 <| .take 10 <| .fin))))) (.one 8 (.alt 0 (.one 3 <| .one 4 <| .take 5 <| .alt 6 (.alt 7 (.one 9 <| .take 10 <| .fin) (.one 9 (.one 7 <| .take 10 <| .fin))) (.one 7 (.one 6 <| .one 9 <| .take 10 <| .fin))) (.one 3 (.one 0 <| .one 4 <| .take 5 <| .alt 6 (.alt 7 (.one 9 <| .take 10 <| .fin) (.one 9 (.one 7 <| .take 10 <| .fin))) (.one 7 (.one 6 <| .one 9 <| .take 10 <| .fin)))))))) (.one 8 (.alt 0 (.one 2 <| .one 3 <| .one 4 <| .take 5 <| .alt 6 (.alt 7 (.one 9 <| .take 10 <| .fin) (.one 9 (.one 7 <| .take 10 <| .fin))) (.one 7 (.one 6 <| .one 9 <| .take 10 <| .fin))) (.one 2 (.alt 0 (.one 3 <| .one 4 <| .take 5 <| .alt 6 (.alt 7 (.one 9 <| .take 10 <| .fin) (.one 9 (.one 7 <| .take 10 <| .fin))) (.one 7 (.one 6 <| .one 9 <| .take 10 <| .fin))) (.one 3 (.one 0 <| .one 4 <| .take 5 <| .alt 6 (.alt 7 (.one 9 <| .take 10 <| .fin) (.one 9 (.one 7 <| .take 10 <| .fin))) (.one 7 (.one 6 <| .one 9 <| .take 10 <| .fin)))))))))) (.alt 2 (.alt 0 (.alt 1 (.alt 3 (.alt 4 (.take 5 <| .alt 6 (.alt 7 (.one 8 <| .one 9 <| .take 10 <| .fin) (.one 8 (.alt 7 (.one 9 <| .take 10 <| .fin) (.one 9 (.one 7 <| .take 10 <| .fin))))) (.alt 7 (.alt 6 (.one 8 <| .one 9 <| .take 10 <| .fin) (.one 8 (.one 6 <| .one 9 <| .take 10 <| .fin))) (.one 8 (.alt 6 (.alt 7 (.one 9 <| .take 10 <| .fin) (.one 9 (.one 7 <| .take 10 <| .fin))) (.one 7 (.one 6 <| .one 9 <| .take 10 <| .fin)))))) (.one 8 (.one 4 <| .take 5 <| .alt 6 (.alt 7 (.one 9 <| .take 10 <| .fin) (.one 9 (.one 7 <| .take 10 <| .fin))) (.one 7 (.one 6 <| .one 9 <| .take 10 <| .fin))))) (.one 8 (.one 3 <| .one 4 <| .take 5 <| .alt 6 (.alt 7 (.one 9 <| .take 10 <| .fin) (.one 9 (.one 7 <| .take 10 <| .fin))) (.one 7 (.one 6 <| .one 9 <| .take 10 <| .fin))))) (.alt 3 (.alt 1 (.alt 4 (.take 5 <| .alt 6 (.alt 7 (.one 8 <| .one 9 <| .take 10 <| .fin) (.one 8 (.alt 7 (.one 9 <| .take 10 <| .fin) (.one 9 (.one 7 <| .take 10 <| .fin))))) (.alt 7 (.alt 6 (.one 8 <| .one 9 <| .take 10 <| .fin) (.one 8 (.one 6 <| .one 9 <| .take 10 <| .fin))) (.one 8 (.alt 6 (.alt 7 (.one 9 <| .take 10 <| .fin) (.one 9 (.one 7 <| .take 10 <| .fin))) (.one 7 (.one 6 <| .one 9 <| .take 10 <| .fin)))))) (.one 8 (.one 4 <| .take 5 <| .alt 6 (.alt 7 (.one 9 <| .take 10 <| .fin) (.one 9 (.one 7 <| .take 10 <| .fin))) (.one 7 (.one 6 <| .one 9 <| .take 10 <| .fin))))) (.one 8 (.one 1 <| .one 4 <| .take 5 <| .alt 6 (.alt 7 (.one 9 <| .take 10 <| .fin) (.one 9 (.one 7 <| .take 10 <| .fin))) (.one 7 (.one 6 <| .one 9 <| .take 10 <| .fin))))) (.one 8 (.alt 1 (.one 3 <| .one 4 <| .take 5 <| .alt 6 (.alt 7 (.one 9 <| .take 10 <| .fin) (.one 9 (.one 7 <| .take 10 <| .fin))) (.one 7 (.one 6 <| .one 9 <| .take 10 <| .fin))) (.one 3 (.one 1 <| .one 4 <| .take 5 <| .alt 6 (.alt 7 (.one 9 <| .take 10 <| .fin) (.one 9 (.one 7 <| .take 10 <| .fin))) (.one 7 (.one 6 <| .one 9 <| .take 10 <| .fin)))))))) (.alt 1 (.alt 0 (.alt 3 (.alt 4 (.take 5 <| .alt 6 (.alt 7 (.one 8 <| .one 9 <| .take 10 <| .fin) (.one 8 (.alt 7 (.one 9 <| .take 10 <| .fin) (.one 9 (.one 7 <| .take 10 <| .fin))))) (.alt 7 (.alt 6 (.one 8 <| .one 9 <| .take 10 <| .fin) (.one 8 (.one 6 <| .one 9 <| .take 10 <| .fin))) (.one 8 (.alt 6 (.alt 7 (.one 9 <| .take 10 <| .fin) (.one 9 (.one 7 <| .take 10 <| .fin))) (.one 7 (.one 6 <| .one 9 <| .take 10 <| .fin)))))) (.one 8 (.one 4 <| .take 5 <| .alt 6 (.alt 7 (.one 9 <| .take 10 <| .fin) (.one 9 (.one 7 <| .take 10 <| .fin))) (.one 7 (.one 6 <| .one 9 <| .take 10 <| .fin))))) (.one 8 (.one 3 <| .one 4 <| .take 5 <| .alt 6 (.alt 7 (.one 9 <| .take 10 <| .fin) (.one 9 (.one 7 <| .take 10 <| .fin))) (.one 7 (.one 6 <| .one 9 <| .take 10 <| .fin))))) (.alt 3 (.alt 0 (.alt 4 (.take 5 <| .alt 6 (.alt 7 (.one 8 <| .one 9 <| .take 10 <| .fin) (.one 8 (.alt 7 (.one 9 <| .take 10 <| .fin) (.one 9 (.one 7 <| .take 10 <| .fin))))) (.alt 7 (.alt 6 (.one 8 <| .one 9 <| .take 10 <| .fin) (.one 8 (.one 6 <| .one 9 <| .take 10 <| .fin))) (.one 8 (.alt 6 (.alt 7 (.one 9 <| .take 10 <| .fin) (.one 9 (.one 7 <| .take 10 <| .fin))) (.one 7 (.one 6 <| .one 9 <| .take 10 <| .fin)))))) (.one 8 (.one 4 <| .take 5 <| .alt 6 (.alt 7 (.one 9 <| .take 10 <| .fin) (.one 9 (.one 7 <| .take 10 <| .fin))) (.one 7 (.one 6 <| .one 9 <| .take 10 <| .fin))))) (.one 8 (.one 0 <| .one 4 <| .take 5 <| .alt 6 (.alt 7 (.one 9 <| .take 10 <| .fin) (.one 9 (.one 7 <| .take 10 <| .fin))) (.one 7 (.one 6 <| .one 9 <| .take 10 <| .fin))))) (.one 8 (.alt 0 (.one 3 <| .one 4 <| .take 5 <| .alt 6 (.alt 7 (.one 9 <| .take 10 <| .fin) (.one 9 (.one 7 <| .take 10 <| .fin))) (.one 7 (.one 6 <| .one 9 <| .take 10 <| .fin))) (.one 3 (.one 0 <| .one 4 <| .take 5 <| .alt 6 (.alt 7 (.one 9 <| .take 10 <| .fin) (.one 9 (.one 7 <| .take 10 <| .fin))) (.one 7 (.one 6 <| .one 9 <| .take 10 <| .fin)))))))) (.alt 3 (.alt 0 (.alt 1 (.alt 4 (.take 5 <| .alt 6 (.alt 7 (.one 8 <| .one 9 <| .take 10 <| .fin) (.one 8 (.alt 7 (.one 9 <| .take 10 <| .fin) (.one 9 (.one 7 <| .take 10 <| .fin))))) (.alt 7 (.alt 6 (.one 8 <| .one 9 <| .take 10 <| .fin) (.one 8 (.one 6 <| .one 9 <| .take 10 <| .fin))) (.one 8 (.alt 6 (.alt 7 (.one 9 <| .take 10 <| .fin) (.one 9 (.one 7 <| .take 10 <| .fin))) (.one 7 (.one 6 <| .one 9 <| .take 10 <| .fin)))))) (.one 8 (.one 4 <| .take 5 <| .alt 6 (.alt 7 (.one 9 <| .take 10 <| .fin) (.one 9 (.one 7 <| .take 10 <| .fin))) (.one 7 (.one 6 <| .one 9 <| .take 10 <| .fin))))) (.one 8 (.one 1 <| .one 4 <| .take 5 <| .alt 6 (.alt 7 (.one 9 <| .take 10 <| .fin) (.one 9 (.one 7 <| .take 10 <| .fin))) (.one 7 (.one 6 <| .one 9 <| .take 10 <| .fin))))) (.alt 1 (.alt 0 (.alt 4 (.take 5 <| .alt 6 (.alt 7 (.one 8 <| .one 9 <| .take 10 <| .fin) (.one 8 (.alt 7 (.one 9 <| .take 10 <| .fin) (.one 9 (.one 7 <| .take 10 <| .fin))))) (.alt 7 (.alt 6 (.one 8 <| .one 9 <| .take 10 <| .fin) (.one 8 (.one 6 <| .one 9 <| .take 10 <| .fin))) (.one 8 (.alt 6 (.alt 7 (.one 9 <| .take 10 <| .fin) (.one 9 (.one 7 <| .take 10 <| .fin))) (.one 7 (.one 6 <| .one 9 <| .take 10 <| .fin)))))) (.one 8 (.one 4 <| .take 5 <| .alt 6 (.alt 7 (.one 9 <| .take 10 <| .fin) (.one 9 (.one 7 <| .take 10 <| .fin))) (.one 7 (.one 6 <| .one 9 <| .take 10 <| .fin))))) (.one 8 (.one 0 <| .one 4 <| .take 5 <| .alt 6 (.alt 7 (.one 9 <| .take 10 <| .fin) (.one 9 (.one 7 <| .take 10 <| .fin))) (.one 7 (.one 6 <| .one 9 <| .take 10 <| .fin))))) (.one 8 (.alt 0 (.one 1 <| .one 4 <| .take 5 <| .alt 6 (.alt 7 (.one 9 <| .take 10 <| .fin) (.one 9 (.one 7 <| .take 10 <| .fin))) (.one 7 (.one 6 <| .one 9 <| .take 10 <| .fin))) (.one 1 (.one 0 <| .one 4 <| .take 5 <| .alt 6 (.alt 7 (.one 9 <| .take 10 <| .fin) (.one 9 (.one 7 <| .take 10 <| .fin))) (.one 7 (.one 6 <| .one 9 <| .take 10 <| .fin)))))))) (.one 8 (.alt 0 (.alt 1 (.one 3 <| .one 4 <| .take 5 <| .alt 6 (.alt 7 (.one 9 <| .take 10 <| .fin) (.one 9 (.one 7 <| .take 10 <| .fin))) (.one 7 (.one 6 <| .one 9 <| .take 10 <| .fin))) (.one 3 (.one 1 <| .one 4 <| .take 5 <| .alt 6 (.alt 7 (.one 9 <| .take 10 <| .fin) (.one 9 (.one 7 <| .take 10 <| .fin))) (.one 7 (.one 6 <| .one 9 <| .take 10 <| .fin))))) (.alt 1 (.alt 0 (.one 3 <| .one 4 <| .take 5 <| .alt 6 (.alt 7 (.one 9 <| .take 10 <| .fin) (.one 9 (.one 7 <| .take 10 <| .fin))) (.one 7 (.one 6 <| .one 9 <| .take 10 <| .fin))) (.one 3 (.one 0 <| .one 4 <| .take 5 <| .alt 6 (.alt 7 (.one 9 <| .take 10 <| .fin) (.one 9 (.one 7 <| .take 10 <| .fin))) (.one 7 (.one 6 <| .one 9 <| .take 10 <| .fin))))) (.one 3 (.alt 0 (.one 1 <| .one 4 <| .take 5 <| .alt 6 (.alt 7 (.one 9 <| .take 10 <| .fin) (.one 9 (.one 7 <| .take 10 <| .fin))) (.one 7 (.one 6 <| .one 9 <| .take 10 <| .fin))) (.one 1 (.one 0 <| .one 4 <| .take 5 <| .alt 6 (.alt 7 (.one 9 <| .take 10 <| .fin) (.one 9 (.one 7 <| .take 10 <| .fin))) (.one 7 (.one 6 <| .one 9 <| .take 10 <| .fin)))))))))))) (.one 8 (.alt 0 (.alt 1 (.one 2 <| .one 3 <| .one 4 <| .take 5 <| .alt 6 (.alt 7 (.one 9 <| .take 10 <| .fin) (.one 9 (.one 7 <| .take 10 <| .fin))) (.one 7 (.one 6 <| .one 9 <| .take 10 <| .fin))) (.one 2 (.alt 1 (.one 3 <| .one 4 <| .take 5 <| .alt 6 (.alt 7 (.one 9 <| .take 10 <| .fin) (.one 9 (.one 7 <| .take 10 <| .fin))) (.one 7 (.one 6 <| .one 9 <| .take 10 <| .fin))) (.one 3 (.one 1 <| .one 4 <| .take 5 <| .alt 6 (.alt 7 (.one 9 <| .take 10 <| .fin) (.one 9 (.one 7 <| .take 10 <| .fin))) (.one 7 (.one 6 <| .one 9 <| .take 10 <| .fin))))))) (.alt 1 (.alt 0 (.one 2 <| .one 3 <| .one 4 <| .take 5 <| .alt 6 (.alt 7 (.one 9 <| .take 10 <| .fin) (.one 9 (.one 7 <| .take 10 <| .fin))) (.one 7 (.one 6 <| .one 9 <| .take 10 <| .fin))) (.one 2 (.alt 0 (.one 3 <| .one 4 <| .take 5 <| .alt 6 (.alt 7 (.one 9 <| .take 10 <| .fin) (.one 9 (.one 7 <| .take 10 <| .fin))) (.one 7 (.one 6 <| .one 9 <| .take 10 <| .fin))) (.one 3 (.one 0 <| .one 4 <| .take 5 <| .alt 6 (.alt 7 (.one 9 <| .take 10 <| .fin) (.one 9 (.one 7 <| .take 10 <| .fin))) (.one 7 (.one 6 <| .one 9 <| .take 10 <| .fin))))))) (.one 2 (.alt 0 (.alt 1 (.one 3 <| .one 4 <| .take 5 <| .alt 6 (.alt 7 (.one 9 <| .take 10 <| .fin) (.one 9 (.one 7 <| .take 10 <| .fin))) (.one 7 (.one 6 <| .one 9 <| .take 10 <| .fin))) (.one 3 (.one 1 <| .one 4 <| .take 5 <| .alt 6 (.alt 7 (.one 9 <| .take 10 <| .fin) (.one 9 (.one 7 <| .take 10 <| .fin))) (.one 7 (.one 6 <| .one 9 <| .take 10 <| .fin))))) (.alt 1 (.alt 0 (.one 3 <| .one 4 <| .take 5 <| .alt 6 (.alt 7 (.one 9 <| .take 10 <| .fin) (.one 9 (.one 7 <| .take 10 <| .fin))) (.one 7 (.one 6 <| .one 9 <| .take 10 <| .fin))) (.one 3 (.one 0 <| .one 4 <| .take 5 <| .alt 6 (.alt 7 (.one 9 <| .take 10 <| .fin) (.one 9 (.one 7 <| .take 10 <| .fin))) (.one 7 (.one 6 <| .one 9 <| .take 10 <| .fin))))) (.one 3 (.alt 0 (.one 1 <| .one 4 <| .take 5 <| .alt 6 (.alt 7 (.one 9 <| .take 10 <| .fin) (.one 9 (.one 7 <| .take 10 <| .fin))) (.one 7 (.one 6 <| .one 9 <| .take 10 <| .fin))) (.one 1 (.one 0 <| .one 4 <| .take 5 <| .alt 6 (.alt 7 (.one 9 <| .take 10 <| .fin) (.one 9 (.one 7 <| .take 10 <| .fin))) (.one 7 (.one 6 <| .one 9 <| .take 10 <| .fin))))))))))))))

set_option maxHeartbeats 16000000 in
theorem ev_tells (m k : Mo) (w : Wi) (hs : m.g.Sm) (hs2 : k.g.Sm) : Ev TE 9 [m.v, k.v, w.v] (.bool true) := by
  have hM : maxLen = 9223372036854775807 := rfl
  have hf1 := ev_few11 m
  have hf2 := ev_few11 k
  have hf3 := ev_few22 w
  have hof := ev_of22 w
  have hfit := ev_wfits m w hs
  have hst := ev_wstart m w hs
  have hrp := ev_wreplay m w hs
  have hrn := ev_rename m k w hs hs2
  have hr1 := fun h : m.Bd => fun hl : w.steps.length ≤ 1000 => ev_rfits m w h hl
  have hr2 := fun h : m.Bd => fun hl : w.steps.length ≤ 1000 => ev_rStart m w h hl
  have hr3 := fun h : m.Bd => fun hl : w.steps.length ≤ 1000 => ev_rReplay m w h hl
  have hr4 := fun h : m.Bd => fun h2 : k.Bd => fun hl : w.steps.length ≤ 1000 => ev_rRename m k w h h2 hl
  obtain ⟨sa, sp, se, hse, hsl⟩ := ia_start m w
  obtain ⟨rc, re, hre⟩ := ia_replay m w
  obtain ⟨x, hx⟩ : ∃ x, x = (renR m k w).1 := ⟨_, rfl⟩
  obtain ⟨xe, hxe⟩ : ∃ xe, xe = (renR m k w).2 := ⟨_, rfl⟩
  obtain ⟨fe, hfe⟩ : ∃ fe, fe = Wi.fits m w := ⟨_, rfl⟩
  have hxl := ren_steps m k w
  rw [hse] at hst
  rw [hre] at hrp
  simp only [hse] at hr2
  simp only [hre] at hr3
  simp only [← hx, ← hxe] at hrn hr4 hxl
  simp only [← hfe] at hfit hr1
  have hox := ev_of22 x
  unfold Mo.v Wi.v at *
  refine Ev.of_awp Tryz.func9 rfl (by simp [nts]) ?_
  
  refine awp_seq (vc_ok mixed _ _ _ _ ?_)
  simp only [sz.down, ↓reduceIte, Nat.reduceEqDiff, Nat.reduceLT, Nat.reduceAdd, TEP, nts, Tryz.results9]
  refine awp_seq (vc_ok mixed _ _ _ _ ?_)
  simp only [sz.down, Nat.reduceLT, TEP, ens]
  refine ACalls.ev ev_works22 rfl ?_
  simp only [sz.down, ↓reduceIte, Nat.reduceLT, TEP]
  refine awp_seq (vc_ok mixed _ _ _ _ ?_)
  simp only [sz.down, ↓reduceIte, Nat.reduceLT, TEP]
  obtain ⟨few, hfew⟩ : ∃ few : Bool, few = (m.few && (k.few && w.few)) := ⟨_, rfl⟩
  refine awp_seq (awp_mono (Q := fun xe f h => xe = .normal ∧ f.t 3 = .lp 0 0 ∧ f.t 4 = .lp 1 0 ∧ f.t 5 = .lp 2 0 ∧ f.t 7 = .bool true ∧ f.t 8 = .bool few ∧ f.d = [] ∧ h = [O.cells [vi m.g.ins, ints m.g.next, ints m.g.init, prs m.g.ands, ints m.g.outs, strs m.ins, strs m.lat, strs m.out], O.cells [vi k.g.ins, ints k.g.next, ints k.g.init, prs k.g.ands, ints k.g.outs, strs k.ins, strs k.lat, strs k.out], O.cells [vi w.bad, ints w.st, cls w.steps]]) ?_ ?_)
  · rintro xe f h ⟨rfl, h3, h4, h5, h7, h8, hd, rfl⟩
    show awp _ _ _ _ _ _ _
    cases few with
    | false =>
      refine awp_seq (vc_ok mixed _ _ _ _ ?_)
      simp only [sz.down, ↓reduceIte, Nat.reduceEqDiff, Nat.reduceLT, TEP, h7, h8, hd]
      exact Reif.dat rfl
    | true =>
      have hfew : m.few = true ∧ k.few = true ∧ w.few = true := by
        have := hfew.symm
        simpa only [Bool.and_eq_true] using this
      obtain ⟨w1, w2, w3⟩ := hfew
      have bm := few_bd w1
      have bk := few_bd w2
      have bw := few_steps w3
      have hr1 := hr1 bm (by omega)
      have hr2 := hr2 bm (by omega)
      have hr3 := hr3 bm (by omega)
      have hr4 := hr4 bm bk (by omega)
      have hsm := ev_rsame22 x x (by omega)
      rw [Wi.sameR] at hsm
      have hbl := ev_bools8 sa sa
      have hrw := ev_rrows8 sp sp (by omega)
      have ebl : (sa == sa) = true := by simp
      have erw : (sp == sp) = true := by simp
      have efe : (fe == fe) = true := by simp
      have ese : (se == se) = true := by simp
      have erc : (rc == rc) = true := by simp
      have ere : (re == re) = true := by simp
      have exe : (xe == xe) = true := by simp
      rw [ebl] at hbl
      rw [erw] at hrw
      unfold Wi.v at hsm
      refine awp_seq (vc_ok mixed _ _ _ _ ?_)
      simp only [sz.down, ↓reduceIte, Nat.reduceLT, TEP, h8]
      refine awp_seq (vc_ok mixed _ _ _ _ ?_)
      simp only [sz.down, ↓reduceIte, Nat.reduceEqDiff, Nat.reduceLT, Nat.reduceAdd, reduceCtorEq, TEP, tis, h3, h5]
      refine ⟨by decide +kernel, vcEv.mk hof rfl rfl ?_⟩
      simp only [sz.down, ↓reduceIte, Nat.reduceEqDiff, Nat.reduceLT]
      refine vcEv.mk hr1 rfl rfl ?_
      simp only [sz.down, ↓reduceIte, Nat.reduceLT, TEP]
      refine awp_seq (vc_ok mixed _ _ _ _ ?_)
      simp only [sz.down, ↓reduceIte, Nat.reduceEqDiff, Nat.reduceLT, Nat.reduceAdd, reduceCtorEq, TEP, tis, ens, h3, h5]
      refine ACalls.ev hst rfl ?_
      simp only [sz.down, ↓reduceIte, Nat.reduceEqDiff, Nat.reduceLT, Nat.reduceAdd, TEP]
      refine awp_seq (vc_ok mixed _ _ _ _ ?_)
      simp only [sz.down, ↓reduceIte, Nat.reduceEqDiff, Nat.reduceLT, Nat.reduceAdd, reduceCtorEq, TEP, tis, h3, h5]
      refine ⟨by decide +kernel, vcEv.mk hof rfl rfl ?_⟩
      simp only [sz.down, ↓reduceIte, Nat.reduceEqDiff, Nat.reduceLT]
      refine vcEv.mk hr2 rfl rfl ?_
      simp only [sz.down, ↓reduceIte, Nat.reduceEqDiff, Nat.reduceLT, Nat.reduceAdd, TEP]
      refine awp_seq (vc_ok mixed _ _ _ _ ?_)
      simp only [sz.down, ↓reduceIte, Nat.reduceEqDiff, Nat.reduceLT, Nat.reduceAdd, reduceCtorEq, TEP, tis, ens, h3, h5]
      refine ACalls.ev hrp rfl ?_
      simp only [sz.down, ↓reduceIte, Nat.reduceEqDiff, Nat.reduceLT, Nat.reduceAdd, TEP]
      refine awp_seq (vc_ok mixed _ _ _ _ ?_)
      simp only [sz.down, ↓reduceIte, Nat.reduceEqDiff, Nat.reduceLT, Nat.reduceAdd, reduceCtorEq, TEP, tis, h3, h5]
      refine ⟨by decide +kernel, vcEv.mk hof rfl rfl ?_⟩
      simp only [sz.down, ↓reduceIte, Nat.reduceEqDiff, Nat.reduceLT]
      refine vcEv.mk hr3 rfl rfl ?_
      simp only [sz.down, ↓reduceIte, Nat.reduceEqDiff, Nat.reduceLT, Nat.reduceAdd, TEP]
      refine awp_seq (awp_mono (Q := fun xx f h => xx = .normal ∧ f.t 3 = .lp 0 0 ∧ f.t 4 = .lp 1 0 ∧ f.t 5 = .lp 2 0 ∧ f.t 7 = .bool true ∧ f.t 9 = vi fe ∧ f.t 10 = bools sa ∧ f.t 11 = rwB sp ∧ f.t 12 = vi se ∧ f.t 13 = bools sa ∧ f.t 14 = rwB sp ∧ f.t 15 = vi se ∧ f.t 16 = .bool rc ∧ f.t 17 = vi re ∧ f.t 18 = .bool rc ∧ f.t 19 = vi re ∧ f.t 20 = .lp 3 0 ∧ f.t 21 = vi xe ∧ f.d = [] ∧ h = [O.cells [vi m.g.ins, ints m.g.next, ints m.g.init, prs m.g.ands, ints m.g.outs, strs m.ins, strs m.lat, strs m.out], O.cells [vi k.g.ins, ints k.g.next, ints k.g.init, prs k.g.ands, ints k.g.outs, strs k.ins, strs k.lat, strs k.out], O.cells [vi w.bad, ints w.st, cls w.steps], O.cells [vi x.bad, ints x.st, cls x.steps]]) ?_ ?_)
      · rintro xx f h ⟨rfl, h3, h4, h5, h7, h9, h10, h11, h12, h13, h14, h15, h16, h17, h18, h19, h20, h21, hd, rfl⟩
        show awp _ _ _ _ _ _ _
        refine awp_seq (awp_plan mixed planT13 (fun f h => f.t 3 = .lp 0 0 ∧ f.t 4 = .lp 1 0 ∧ f.t 5 = .lp 2 0 ∧ f.t 7 = .bool true ∧ f.t 9 = vi fe ∧ f.t 10 = bools sa ∧ f.t 11 = rwB sp ∧ f.t 12 = vi se ∧ f.t 13 = bools sa ∧ f.t 14 = rwB sp ∧ f.t 15 = vi se ∧ f.t 16 = .bool rc ∧ f.t 17 = vi re ∧ f.t 18 = .bool rc ∧ f.t 19 = vi re ∧ f.t 20 = .lp 3 0 ∧ f.t 21 = vi xe ∧ f.t 22 = .lp 4 0 ∧ f.t 23 = vi xe ∧ f.d = [] ∧ h = [O.cells [vi m.g.ins, ints m.g.next, ints m.g.init, prs m.g.ands, ints m.g.outs, strs m.ins, strs m.lat, strs m.out], O.cells [vi k.g.ins, ints k.g.next, ints k.g.init, prs k.g.ands, ints k.g.outs, strs k.ins, strs k.lat, strs k.out], O.cells [vi w.bad, ints w.st, cls w.steps], O.cells [vi x.bad, ints x.st, cls x.steps], O.cells [vi x.bad, ints x.st, cls x.steps]]) (by decide +kernel) (by decide +kernel) ?_ ?_)
        · simp only [sz.down, ↓reduceIte, Nat.reduceEqDiff, Nat.reduceLT, Nat.reduceAdd, reduceCtorEq, TEP, tis, ens, planT13, h3, h4, h5]
          repeat' apply And.intro
          all_goals
            refine ACalls.ev hof rfl ?_
            simp only [sz.down, ↓reduceIte, Nat.reduceEqDiff, Nat.reduceLT, Nat.reduceAdd, reduceCtorEq, TEP, tis, ens, h3, h4]
            repeat' apply And.intro
          all_goals
            refine ACalls.ev hr4 rfl ?_
            simp only [sz.down, ↓reduceIte, Nat.reduceEqDiff, Nat.reduceLT, Nat.reduceAdd, TEP, tis, h3, h4, h5, h7, h9, h10, h11, h12, h13, h14, h15, h16, h17, h18, h19, h20, h21, hd]
        · rintro f h ⟨h3, h4, h5, h7, h9, h10, h11, h12, h13, h14, h15, h16, h17, h18, h19, h20, h21, h22, h23, hd, rfl⟩
          show awp _ _ _ _ _ _ _
          refine awp_seq (vc_ok mixed _ _ _ _ ?_)
          simp only [sz.down, ↓reduceIte, Nat.reduceEqDiff, Nat.reduceLT, Nat.reduceAdd, reduceCtorEq, TEP, tis, h20]
          refine ⟨by decide +kernel, vcEv.mk hox rfl rfl ?_⟩
          simp only [sz.down, ↓reduceIte, Nat.reduceEqDiff, Nat.reduceLT, Nat.reduceAdd, reduceCtorEq, TEP, tis, h22]
          refine vcEv.mk hsm rfl rfl ?_
          simp only [sz.down, ↓reduceIte, Nat.reduceLT, TEP]
          refine vc_ok mixed _ _ _ _ ?_
          simp only [sz.down, ↓reduceIte, Nat.reduceEqDiff, Nat.reduceLT, Nat.reduceAdd, reduceCtorEq, TEP, tis, ens, h3, h5, h7]
          refine ACalls.ev hfit rfl ?_
          simp only [sz.down, ↓reduceIte, Nat.reduceEqDiff, Nat.reduceLT, reduceCtorEq, TEP, ens, h9, h10, h13]
          refine ACalls.ev hbl rfl ?_
          simp only [sz.down, ↓reduceIte, Nat.reduceEqDiff, Nat.reduceLT, reduceCtorEq, TEP, ens, h11, h14]
          refine ACalls.ev hrw rfl ?_
          simp only [sz.down, ↓reduceIte, Nat.reduceEqDiff, Nat.reduceLT, reduceCtorEq, TEP, tis, h12, h15, h16, h17, h18, h19, h21, h23, hd]
          exact Reif.dat rfl
      · refine vc_ok mixed _ _ _ _ ?_
        simp only [sz.down, ↓reduceIte, Nat.reduceEqDiff, Nat.reduceLT, Nat.reduceAdd, reduceCtorEq, TEP, tis, ens, h3, h4, h5]
        refine ACalls.ev hrn rfl ?_
        simp only [sz.down, ↓reduceIte, Nat.reduceEqDiff, Nat.reduceLT, Nat.reduceAdd, TEP, tis, h3, h4, h5, h7, hd]
  · refine vc_ok mixed _ _ _ _ ?_
    simp only [sz.down, ↓reduceIte, Nat.reduceEqDiff, Nat.reduceLT, Nat.reduceAdd, reduceCtorEq, TEP, tis, ens]
    refine ACalls.ev hf1 rfl ?_
    rw [hfew]
    cases m.few with
    | false =>
      simp only [sz.down, ↓reduceIte, Nat.reduceEqDiff, Nat.reduceLT, Nat.reduceAdd, reduceCtorEq, TEP, tis]
      repeat (refine ⟨.bool true, ?_⟩; simp only [sz.down, ↓reduceIte, Nat.reduceEqDiff, Nat.reduceLT, TEP])
    | true =>
      simp only [sz.down, ↓reduceIte, Nat.reduceEqDiff, Nat.reduceLT, Nat.reduceAdd, reduceCtorEq, TEP, tis, ens]
      refine ACalls.ev hf2 rfl ?_
      cases k.few with
      | false =>
        simp only [sz.down, ↓reduceIte, Nat.reduceEqDiff, Nat.reduceLT, Nat.reduceAdd, reduceCtorEq, TEP, tis]
        repeat (refine ⟨.bool true, ?_⟩; simp only [sz.down])
      | true =>
        simp only [sz.down, ↓reduceIte, Nat.reduceEqDiff, Nat.reduceLT, Nat.reduceAdd, reduceCtorEq, TEP, tis, ens]
        refine ACalls.ev hf3 rfl ?_
        cases w.few <;> (simp only [sz.down, ↓reduceIte, Nat.reduceEqDiff, Nat.reduceLT, reduceCtorEq, TEP])

end Go.Proofs.YtboolnpmlmgpkaaGreatDoor
