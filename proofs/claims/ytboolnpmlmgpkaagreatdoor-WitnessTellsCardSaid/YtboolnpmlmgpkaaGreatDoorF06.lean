/- Functions of the program, part 06. -/
import Derived.Test.YtboolnpmlmgpkaaGreatDoorF05
import Derived.Test.YtboolnpmlmgpkaaGreatDoorA10
set_option linter.unusedVariables false
set_option maxRecDepth 20000
set_option linter.unusedSimpArgs false
set_option linter.unnecessarySimpa false
namespace Go.Proofs.YtboolnpmlmgpkaaGreatDoor
open Go Go.Proofs Go.Abs

/-! ### What is printed -/
def sgn (n : Int) : UInt8 := [(48 : UInt8), 49, 120].getD n.toNat 0
def lineW (l : Cl) : S := l.map sgn ++ [10]
def Wi.odd (w : Wi) : Bool := w.st.any oddB || w.steps.any (fun l => l.any oddB)
def Wi.txt (w : Wi) : S := [49, 10, 98] ++ Lib.itoa w.bad ++ [10] ++ (w.st :: w.steps).flatMap lineW
def Wi.printV (w : Wi) : S × Int := if fitsB w.bad = true ∧ w.odd = false then (w.txt ++ [46, 10], 0) else ([], 1)
theorem flat_line {ls : List Cl} {i : Nat} (h : i < ls.length) : (ls.take (i + 1)).flatMap lineW = (ls.take i).flatMap lineW ++ lineW ls[i] := by
  rw [List.take_add_one, List.flatMap_append]; simp [h]
theorem flat_line_le {ls : List Cl} {i : Nat} : ((ls.take i).flatMap lineW).length ≤ (ls.flatMap lineW).length := by
  conv => rhs; rw [← List.take_append_drop i ls, List.flatMap_append, List.length_append]
  omega

theorem drops_cls (p : Nat → Bool) : ∀ l : List Cl, V.drops p (l.map fun c => ints c) = l.map fun c => ints c
  | [] => rfl
  | a :: l => by simp only [List.map_cons, V.drops, V.drop, drops_cls p l]
theorem cls_ok : ∀ l : List Cl, V.dats (l.map fun c => ints c) = true ∧ allFit 1 (l.map fun c => ints c) = true ∧ (l.map fun c => ints c).flatMap V.vc = l.map fun c => ints c
  | [] => ⟨rfl, rfl, rfl⟩
  | a :: l => by
    obtain ⟨h1, h2, h3⟩ := cls_ok l
    simp only [List.map_cons, V.dats, V.dat, allFit, V.fit, V.vc, V.one, List.flatMap_cons, h1, h2, h3, List.length_singleton]
    exact ⟨rfl, rfl, rfl⟩
theorem allOne_cls : ∀ l : List Cl, allOne (l.map fun c => ints c) = true
  | [] => rfl
  | a :: l => by simp only [List.map_cons, allOne, V.one, allOne_cls l, Bool.and_self]
/-- A builder that holds a text (not none). -/
def BD (out : S) (h0 : H) (h : H) : Prop := h = h0 ++ [.typed 98 [.lp h0.length 0, .ls (h0.length + 1) 1 0 out.length out.length], .typed 5 (out.map vb)]

set_option maxHeartbeats 4000000 in
theorem ev_wprint (w : Wi) (hl : ((w.st :: w.steps).flatMap lineW).length ≤ 2000000000000) : Ev TE 48 [w.v] (.tup [.str w.printV.1, vi w.printV.2]) := by
  have hM : maxLen = 9223372036854775807 := rfl
  have hput := ev_put w.bad
  have hsl : w.steps.length ≤ 2000000000000 := by
    have : ∀ l : List Cl, l.length ≤ (l.flatMap lineW).length := fun l => by
      induction l with
      | nil => simp
      | cons a l ih => simp only [List.flatMap_cons, List.length_append, List.length_cons, lineW]; omega
    have := this (w.st :: w.steps)
    simp only [List.length_cons] at this
    omega
  unfold Wi.v
  refine Ev.of_awp Tryz.func48 rfl (by simp [nts]) ?_
  
  refine awp_seq (vc_ok mixed _ _ _ _ ?_)
  simp only [sz.down, ↓reduceIte, Nat.reduceLT, Nat.reduceLeDiff, TEP, nts, Tryz.results48]
  refine awp_seq (vc_ok mixed _ _ _ _ ?_)
  simp only [sz.down, ↓reduceIte, Nat.reduceEqDiff, Nat.reduceLT, Nat.reduceLeDiff, Nat.reduceAdd, TEP, tis, ens]
  refine ACalls.ev hput rfl ?_
  simp only [sz.down, ↓reduceIte, Nat.reduceEqDiff, Nat.reduceLT, Nat.reduceAdd, TEP]
  cases hf : fitsB w.bad with
  | false =>
    have hp : putV w.bad = ([], 3) := by unfold putV; rw [if_neg (by simp [hf])]
    rw [hp]
    refine awp_seq (vc_ok mixed _ _ _ _ ?_)
    simp only [sz.down, ↓reduceIte, Nat.reduceEqDiff, Nat.reduceLT, Nat.reduceLeDiff, Nat.reduceAdd, Int.reduceBNe, reduceCtorEq, TEP, tis]
    refine ⟨.bool true, ?_⟩
    simp only [sz.down, ↓reduceIte, Nat.reduceEqDiff, Nat.reduceLT, reduceCtorEq, TEP]
    refine ⟨.bool true, ?_⟩
    simp only [sz.down, ↓reduceIte, Nat.reduceEqDiff, Nat.reduceLT, Nat.reduceLeDiff, TEP]
    have hv : w.printV = ([], 1) := by unfold Wi.printV; rw [if_neg]; simp [Wi.odd, hf]
    rw [hv]
    exact Reif.dat rfl
  | true =>
    have hp : putV w.bad = (Lib.itoa w.bad, 0) := by unfold putV; rw [if_pos hf]
    rw [hp]
    refine awp_seq (vc_ok mixed _ _ _ _ ?_)
    simp only [sz.down, ↓reduceIte, Nat.reduceEqDiff, Nat.reduceLT, Nat.reduceLeDiff, Nat.reduceAdd, Int.reduceBNe, TEP, tis, ens]
    refine ACalls.ev (ev_wodd w.st) rfl ?_
    cases ho1 : w.st.any oddB with
    | true =>
      simp only [sz.down, ↓reduceIte, Nat.reduceEqDiff, Nat.reduceLT, Nat.reduceAdd, reduceCtorEq, TEP, tis]
      refine ⟨.bool true, ?_⟩
      simp only [sz.down, ↓reduceIte, Nat.reduceEqDiff, Nat.reduceLT, Nat.reduceLeDiff, TEP]
      have hv : w.printV = ([], 1) := by unfold Wi.printV; rw [if_neg]; simp [Wi.odd, ho1]
      rw [hv]
      exact Reif.dat rfl
    | false =>
      simp only [sz.down, ↓reduceIte, Nat.reduceEqDiff, Nat.reduceLT, Nat.reduceAdd, TEP, tis, ens]
      refine ACalls.ev (ev_ctL w.steps 115 [] (fun l => l.any oddB) rfl rfl fun l _ => ev_wodd l) rfl ?_
      cases ho2 : w.steps.any (fun l => l.any oddB) with
      | true =>
        simp only [sz.down, ↓reduceIte, Nat.reduceEqDiff, Nat.reduceLT, Nat.reduceLeDiff, TEP]
        have hv : w.printV = ([], 1) := by unfold Wi.printV; rw [if_neg]; simp [Wi.odd, ho2]
        rw [hv]
        exact Reif.dat rfl
      | false =>
        simp only [sz.down, ↓reduceIte, Nat.reduceEqDiff, Nat.reduceLT, TEP]
        have hod : w.odd = false := by simp only [Wi.odd, ho1, ho2, Bool.or_false]
        have hv : w.printV = (w.txt ++ [46, 10], 0) := by unfold Wi.printV; rw [if_pos ⟨hf, hod⟩]
        have hit := itoa_len w.bad (by simp [fitsB] at hf; omega) (by simp [fitsB] at hf; omega)
        obtain ⟨all, hall⟩ : ∃ all : List Cl, all = w.st :: w.steps := ⟨_, rfl⟩
        have hallo : ∀ l ∈ all, ∀ a ∈ l, 0 ≤ a ∧ a ≤ 2 := by
          intro l hl
          rw [hall] at hl
          rcases List.mem_cons.1 hl with rfl | hl
          · exact odd_no ho1
          · exact odd_no (by simpa using List.any_eq_false.1 ho2 l hl)
        obtain ⟨pre, hpre⟩ : ∃ pre : S, pre = [49, 10, 98] ++ Lib.itoa w.bad ++ [10] := ⟨_, rfl⟩
        have hprel : pre.length ≤ 20 ∧ pre ≠ [] := by rw [hpre]; simp; omega
        have hallL : all.length = w.steps.length + 1 := by rw [hall]; rfl
        rw [← hall] at hl
        refine awp_seq (awp_list ?_)
        refine awpL_op rfl rfl ?_
        refine eff_allocT (t := 98) (q := ⟨.struct [(0, 95), (1, 96)], 2, 32, .agg [.nilp, .nils]⟩) rfl (by simp only [sz.down, TEP, tis]) rfl ?_
        refine awpL_nil ?_
        simp only [sz.down]
        refine awp_seq (vc_ok mixed _ _ _ _ ?_)
        simp only [sz.down, ↓reduceIte, Nat.reduceEqDiff, Nat.reduceLT, Nat.reduceLeDiff, Nat.reduceAdd, TEP, ens]
        refine ⟨by omega, by omega, ?_⟩
        refine bld_first bt_builder (49 :: 10 :: 98 :: (Lib.itoa w.bad ++ [10])) (.inl rfl) rfl (by simp) (by simp; omega) ?_
        have hpre2 : (49 :: 10 :: 98 :: (Lib.itoa w.bad ++ [10]) : S) = pre := by rw [hpre]; simp
        rw [hpre2]
        simp only [sz.down, Nat.reduceAdd]
        have hdc : ∀ p, V.drops p (all.map fun c => ints c) = all.map fun c => ints c := fun p => drops_cls p all
        refine awp_seq (awp_seq (awp_mono (Q := fun xe f' h' => xe = .normal ∧ f'.t 6 = .lp 1 0 ∧ f'.t 39 = vi all.length ∧ f'.t 40 = vi 0 ∧ f'.d = [] ∧ ((f'.t 38 = .is true 1 [ints w.st] ∧ all = [w.st] ∧ h' = [.cells [vi w.bad, ints w.st, cls w.steps], .typed 98 [.lp 1 0, .ls 2 1 0 pre.length pre.length], .typed 5 (pre.map vb)]) ∨ (f'.t 38 = .ls 3 1 0 all.length all.length ∧ h' = [.cells [vi w.bad, ints w.st, cls w.steps], .typed 98 [.lp 1 0, .ls 2 1 0 pre.length pre.length], .typed 5 (pre.map vb)] ++ [.cells (all.map fun c => ints c)]))) ?_ ?_))
        · rintro xe f' h' ⟨rfl, h6, h39, h40, hd, hor⟩
          simp only [sz.down]
          refine awp_via (fun f' => f'.t 6 = .lp 1 0 ∧ f'.t 38 = cls all ∧ f'.t 39 = vi all.length ∧ f'.t 40 = vi 0 ∧ f'.d = []) [.cells [vi w.bad, ints w.st, cls w.steps], .typed 98 [.lp 1 0, .ls 2 1 0 pre.length pre.length], .typed 5 (pre.map vb)] (fun main => ?_) ?_
          · rcases hor with ⟨h38, hal, rfl⟩ | ⟨h38, rfl⟩
            · refine awp_le (FLe.one 38 (v := cls all) (by rw [h38, hal]; exact VLe.inexact)) (HLe.refl _) (main _ ⟨by simp only [sz.down, ↓reduceIte, Nat.reduceEqDiff, h6], by simp only [sz.down, ↓reduceIte], by simp only [sz.down, ↓reduceIte, Nat.reduceEqDiff, h39], by simp only [sz.down, ↓reduceIte, Nat.reduceEqDiff, h40], hd⟩)
            · refine awp_popTo (h0 := [.cells [vi w.bad, ints w.st, cls w.steps], .typed 98 [.lp 1 0, .ls 2 1 0 pre.length pre.length], .typed 5 (pre.map vb)]) (Y := [.cells (all.map fun c => ints c)]) 38 (cls all) (by simp only [sz.down, Nat.reduceAdd, hd]) (by simp only [sz.down, ↓reduceIte, Nat.reduceAdd, h38, from_]) ?_ ?_
              · simp only [sz.down, Nat.reduceAdd, h38]
                exact Reif.ls ((keepP_at (h0 := [_, _, _]) 0 rfl).trans (by rw [hdc])) (Reifs.dat (cls_ok _).1) (cls_ok _).2.1 (cls_ok _).2.2 (by simp)
              · simp only [sz.down, ↓reduceIte, Nat.reduceLeDiff, Nat.reduceAdd, from_, drops_vb]
                exact main _ ⟨by simp only [sz.down, ↓reduceIte, Nat.reduceEqDiff, Nat.reduceLeDiff, h6, from_], by simp only [sz.down, ↓reduceIte], by simp only [sz.down, ↓reduceIte, Nat.reduceEqDiff, h39], by simp only [sz.down, ↓reduceIte, Nat.reduceEqDiff, h40], hd⟩
          · rintro f' ⟨h6, h38, h39, h40, hd⟩
            clear hput hp
            obtain ⟨out, hout⟩ : ∃ out : Nat → S, ∀ i, out i = pre ++ (all.take i).flatMap lineW := ⟨fun i => pre ++ (all.take i).flatMap lineW, fun i => rfl⟩
            have ho0 : out 0 = pre := by rw [hout]; simp
            have hsucc : ∀ i, (h : i < all.length) → out (i + 1) = out i ++ (all[i].map sgn ++ [10]) := fun i h => by rw [hout, hout, flat_line h, lineW, List.append_assoc]
            have hlen : ∀ i, (out i).length ≤ 2000000000020 := fun i => by
              rw [hout, List.length_append]
              have := flat_line_le (ls := all) (i := i)
              omega
            have hne : ∀ i, out i ≠ [] := fun i => by rw [hout]; simp [hprel.2]
            rw [← ho0]
            refine awp_block ?_
            refine awp_loop (fun m f h => ∃ i, m + i = all.length ∧ f.t 6 = .lp 1 0 ∧ f.t 38 = cls all ∧ f.t 39 = vi all.length ∧ f.t 40 = vi i ∧ f.d = [] ∧ h = [O.cells [vi w.bad, ints w.st, cls w.steps], O.typed 98 [.lp 1 0, .ls 2 1 0 (out i).length (out i).length], O.typed 5 ((out i).map vb)]) all.length ⟨0, by simp, h6, h38, h39, h40, hd, rfl⟩ ?_
            rintro m f h ⟨i, hm, h6, h38, h39, h40, hd, rfl⟩
            refine awp_seq (vc_ok mixed _ _ _ _ ?_)
            simp only [sz.down, Nat.reduceLT, TEP, h39, h40]
            refine awp_seq (vc_ok mixed _ _ _ _ ?_)
            simp only [sz.down, ↓reduceIte]
            refine vcB.mk (fun hlt => ?_) (fun hlt => ?_)
            · simp only [decide_eq_true_eq, Int.ofNat_lt] at hlt
              have hgl : (all.map fun c => ints c).getD i .any = ints all[i] := getC hlt _
              have hlo := hallo _ (List.getElem_mem hlt)
              have hls := hlen (i + 1)
              rw [hsucc i hlt] at hls
              simp only [List.length_append, List.length_map, List.length_singleton] at hls
              refine awp_seq (awp_block ?_)
              refine awp_seq (vc_ok mixed _ _ _ _ ?_)
              simp only [sz.down, ↓reduceIte, Nat.reduceEqDiff, Nat.reduceLT, TEP, tis, h38, h40, hgl]
              refine ⟨⟨by omega, by omega⟩, ?_⟩
              refine awp_seq ?_
              refine vc_ok mixed _ _ _ _ ?_
              simp only [sz.down, ↓reduceIte, Nat.reduceLT, TEP, tis]
              generalize hl : all[i] = l at *
              refine awp_loop (fun m f h => ∃ j cur, m + j = l.length ∧ f.t 6 = .lp 1 0 ∧ f.t 38 = cls all ∧ f.t 39 = vi all.length ∧ f.t 40 = vi i ∧ f.t 44 = ints l ∧ f.t 45 = vi l.length ∧ f.t 46 = vi j ∧ f.d = [] ∧ cur = out i ++ (l.take j).map sgn ∧ h = [O.cells [vi w.bad, ints w.st, cls w.steps], O.typed 98 [.lp 1 0, .ls 2 1 0 (cur).length (cur).length], O.typed 5 ((cur).map vb)]) l.length ⟨0, out i, by simp, by simp only [sz.down, ↓reduceIte, Nat.reduceEqDiff, h6], by simp only [sz.down, ↓reduceIte, Nat.reduceEqDiff, h38], by simp only [sz.down, ↓reduceIte, Nat.reduceEqDiff, h39], by simp only [sz.down, ↓reduceIte, Nat.reduceEqDiff, h40], by simp only [sz.down, ↓reduceIte, Nat.reduceEqDiff], by simp only [sz.down, ↓reduceIte, Nat.reduceEqDiff], by first | ((simp only [sz.down, ↓reduceIte]); rfl) | (simp only [sz.down, ↓reduceIte, Nat.reduceEqDiff, Nat.reduceLT, Nat.reduceLeDiff, Nat.reduceAdd, Nat.reduceSub, Int.reduceToNat, Nat.reduceDiv, Int.reduceLT, Int.reduceLE, Int.reduceNeg, Int.reduceBEq, Int.reduceBNe, Int.reduceAdd, Int.reduceSub, Nat.reduceBEq, reduceCtorEq, Nat.reduceMul, sp.down, pvNilI, Tryz.results48]), by simp only [sz.down, hd], by simp, rfl⟩ ?_
              rintro m2 f h ⟨j, cur, hm2, h6, h38, h39, h40, h44, h45, h46, hd, hcur, rfl⟩
              refine vc_ok mixed _ _ _ _ ?_
              simp only [sz.down, ↓reduceIte, Nat.reduceLT, TEP, h45, h46]
              refine vcB.mk (fun hlt2 => ?_) (fun hlt2 => ?_)
              · simp only [decide_eq_true_eq, Int.ofNat_lt] at hlt2
                have hgj : (l.map vi).getD j .any = vi l[j] := getI hlt2 _
                have hv := hlo _ (List.getElem_mem hlt2)
                have hw := wrap_succ (show j < maxLen by omega)
                have hnx : cur ++ [sgn l[j]] = out i ++ (l.take (j + 1)).map sgn := by rw [hcur, List.take_add_one, List.map_append]; simp [hlt2]
                have hcl : cur.length ≤ 2000000000020 := by rw [hcur, List.length_append]; simp; omega
                have hix : ([(48 : UInt8), 49, 120].getD l[j].toNat 0) = sgn l[j] := rfl
                have htl : ((l.take j).map sgn).length ≤ l.length := by simp; omega
                simp only [sz.down, ↓reduceIte, Nat.reduceEqDiff, Nat.reduceLT, Nat.reduceLeDiff, Nat.reduceAdd, TEP, tis, ens, h6, h44, h46, hgj, hix]
                refine ⟨⟨by omega, by omega⟩, ⟨by omega, by omega⟩, bld_byte bt_builder cur (sgn l[j]) (.inr rfl) (by decide) rfl rfl (by omega) ?_⟩
                generalize hc2 : cur ++ [sgn l[j]] = cur2 at *
                simp only [sz.down, ↓reduceIte, Nat.reduceEqDiff, Nat.reduceLT, Nat.reduceBEq, TEP, callK_p, h46, hd, drops_vb, hw]
                exact .inl ⟨m2 - 1, by omega, j + 1, cur2, by omega, by simp only [sz.down, ↓reduceIte, Nat.reduceEqDiff, Nat.reduceBEq, h6], by simp only [sz.down, ↓reduceIte, Nat.reduceEqDiff, h38], by simp only [sz.down, ↓reduceIte, Nat.reduceEqDiff, h39], by simp only [sz.down, ↓reduceIte, Nat.reduceEqDiff, h40], by simp only [sz.down, ↓reduceIte, Nat.reduceEqDiff, h44], by simp only [sz.down, ↓reduceIte, Nat.reduceEqDiff, h45], rfl, by simp only [sz.down, hd], hnx, rfl⟩
              · simp only [decide_eq_false_iff_not, Int.ofNat_lt] at hlt2
                have hj : j = l.length := by omega
                subst hj
                rw [List.take_length] at hcur
                have hcl : cur.length ≤ 2000000000020 := by rw [hcur, List.length_append]; simp; omega
                have hnx : cur ++ [10] = out (i + 1) := by rw [hcur, hsucc i hlt, List.append_assoc, hl]
                simp only [sz.down]
                refine vc_ok mixed _ _ _ _ ?_
                simp only [sz.down, ↓reduceIte, Nat.reduceEqDiff, Nat.reduceLT, TEP, ens, h6]
                refine bld_byte bt_builder cur 10 (.inr rfl) (by decide) rfl rfl (by omega) ?_
                rw [hnx]
                have hw := wrap_succ (show i < maxLen by omega)
                simp only [sz.down, ↓reduceIte, Nat.reduceBEq, callK_p, hd, drops_vb]
                refine vc_ok mixed _ _ _ _ ?_
                simp only [sz.down, ↓reduceIte, Nat.reduceEqDiff, Nat.reduceLT, TEP, h40, hw]
                exact .inl ⟨m - 1, by omega, i + 1, by omega, by simp only [sz.down, ↓reduceIte, Nat.reduceEqDiff, Nat.reduceBEq, h6], by simp only [sz.down, ↓reduceIte, Nat.reduceEqDiff, h38], by simp only [sz.down, ↓reduceIte, Nat.reduceEqDiff, h39], rfl, by simp only [sz.down, hd], rfl⟩
            · simp only [decide_eq_false_iff_not, Int.ofNat_lt] at hlt
              have hi : i = all.length := by omega
              subst hi
              have hfo : out all.length = w.txt := by rw [hout, List.take_length, hpre, hall]; rfl
              simp only [sz.down]
              refine awp_seq (vc_ok mixed _ _ _ _ ?_)
              simp only [sz.down, ↓reduceIte, Nat.reduceEqDiff, Nat.reduceLT, TEP, ens, h6]
              refine bld_str (out all.length) rfl rfl (hne _) (by have := hlen all.length; omega) ?_
              have := hlen all.length
              rw [hfo] at this ⊢
              simp only [sz.down, ↓reduceIte, Nat.reduceLT, Nat.reduceLeDiff, Nat.reduceAdd, Nat.reduceBEq, TEP, callK_p, hd]
              refine ⟨by omega, ?_⟩
              refine vc_ok mixed _ _ _ _ ?_
              simp only [sz.down, ↓reduceIte, Nat.reduceEqDiff, TEP, hd]
              rw [hv]
              exact Reif.dat rfl
        · refine awp_list ?_
          refine awpL_vc rfl rfl ?_
          simp only [sz.down, ↓reduceIte, Nat.reduceEqDiff, Nat.reduceLT, TEP, tis]
          refine awpL_vc rfl rfl ?_
          simp only [sz.down, ↓reduceIte, Nat.reduceLeDiff, Nat.reduceAdd, TEP, tis]
          refine awpL_vc rfl rfl ?_
          simp only [sz.down, ↓reduceIte, Nat.reduceLT, reduceCtorEq, Nat.reduceMul, TEP, tis]
          refine ⟨⟨rfl, by decide⟩, ?_⟩
          refine awpL_vc rfl rfl ?_
          simp only [sz.down, ↓reduceIte, Nat.reduceEqDiff, Nat.reduceLT, TEP, tis]
          refine awpL_vc rfl rfl ?_
          simp only [sz.down, ↓reduceIte, Nat.reduceAdd, TEP, tis]
          by_cases hst : w.steps = []
          · have hq : ti TE.P 52 = some ⟨.slice 22, 1, 24, .nils⟩ := by simp only [sz.down, TEP, tis]
            have hqe : ti TE.P 22 = some ⟨.slice 3, 1, 24, .nils⟩ := by simp only [sz.down, TEP, tis]
            have hal : all = [w.st] := by rw [hall, hst]
            refine awpL_op rfl rfl ?_
            refine eff_append_zero (x := .tmp 35) (y := .tmp 37) (t := 52) (xt := 52) (el := 22) (cs := []) ⟨⟨_, rfl, rfl, rfl⟩, hq, rfl, hqe, rfl, rfl, Nat.zero_lt_one⟩ (by simp only [sz.down, ↓reduceIte, Nat.reduceEqDiff]) (by simp only [sz.down, ↓reduceIte]) (ex := true) (k := 1) (es := [ints w.st]) (by simp only [sz.down, ↓reduceIte, Nat.reduceEqDiff]) (by simp only [sz.down, ↓reduceIte, TEP, tis]) (by simp only [sz.down, ↓reduceIte, hst]) (by simp only [sz.down, ↓reduceIte, hst]) ?_
            refine awpL_vc rfl rfl ?_
            simp only [sz.down, ↓reduceIte, TEP, tis]
            refine awpL_vc rfl rfl ?_
            simp only [sz.down, TEP]
            refine awpL_nil ⟨rfl, by simp only [sz.down, ↓reduceIte, Nat.reduceEqDiff], by simp only [sz.down, ↓reduceIte, Nat.reduceEqDiff, hal], by simp only [sz.down, ↓reduceIte], by simp only [sz.down], .inl ⟨by simp only [sz.down, ↓reduceIte, Nat.reduceEqDiff], hal, rfl⟩⟩
          · have hpos : 0 < w.steps.length := List.length_pos_iff.2 hst
            refine awpL_vc rfl rfl ?_
            simp only [sz.down, ↓reduceIte, Nat.reduceEqDiff, Nat.reduceLT, Nat.reduceAdd, reduceCtorEq, TEP, tis, allOne_cls]
            refine ⟨⟨.inr hpos, by omega, by omega⟩, ?_⟩
            refine awpL_vc rfl rfl ?_
            simp only [sz.down, ↓reduceIte, TEP, tis]
            refine awpL_vc rfl rfl ?_
            simp only [sz.down, TEP]
            have hal : all.length = 1 + w.steps.length := by rw [hall, List.length_cons]; omega
            refine awpL_nil ⟨rfl, by simp only [sz.down, ↓reduceIte, Nat.reduceEqDiff], by simp only [sz.down, ↓reduceIte, Nat.reduceEqDiff, hal], by simp only [sz.down, ↓reduceIte], by simp only [sz.down], .inr ⟨by simp only [sz.down, ↓reduceIte, Nat.reduceEqDiff, hal], by rw [hall]; rfl⟩⟩

end Go.Proofs.YtboolnpmlmgpkaaGreatDoor

set_option linter.unusedVariables false
set_option maxRecDepth 20000
set_option linter.unusedSimpArgs false
set_option linter.unnecessarySimpa false
namespace Go.Proofs.YtboolnpmlmgpkaaGreatDoor
open Go Go.Proofs Go.Abs

/-! ### Where parsing ends -/
theorem perr_none {s : S} {c1 c2 c3 d1 d2 d3 : V} {G : H} {K : H → (Nat → Bool) → Prop} (hK : K (.cells [.str s] :: .cells [c1, c2, c3] :: .cells [d1, d2, d3] :: (G ++ [.cells [vi 0, vi 0]])) (fun _ => false)) :
    ACallsR TE 118 [.lp 0 0, .lp 1 0, .lp 2 0] (.cells [.str s] :: .cells [c1, c2, c3] :: .cells [d1, d2, d3] :: G) K := by
  have hgE : ∀ x : O, (G ++ [x])[G.length]? = some x := fun x => by simp
  have hgS : ∀ x y : O, (G ++ [x]).set G.length y = G ++ [y] := fun x y => by simp
  
  refine ACallsR.of_awp rfl Tryz.func118 rfl rfl (by simp [nts]) rfl (fun ev w => rfl) rfl (by decide) ?_
  simp only [nts]
  refine awpL_op rfl rfl ?_
  refine eff_assert_nili (x := .tmp 6) (t := 171) (q := ⟨.struct [(0, 3), (1, 31)], 2, 16, .agg [vi 0, vi 0]⟩) rfl (by simp only [sz.down, TEP, tis]) (by simp only [sz.down, ↓reduceIte]) (by simp only [sz.down, ↓reduceIte]) ?_
  refine awpL_vc rfl rfl ?_
  simp only [sz.down, ↓reduceIte, TEP]
  refine awpL_vc rfl rfl ?_
  simp only [sz.down, ↓reduceIte, Nat.reduceLT, Nat.reduceAdd, TEP]
  refine awpL_vc rfl rfl ?_
  simp only [sz.down, ↓reduceIte, Nat.reduceEqDiff, Nat.reduceLT, Nat.reduceAdd, TEP]
  refine awpL_vc rfl rfl ?_
  simp only [sz.down, TEP, tis]
  refine awpL_vc rfl rfl ?_
  simp only [sz.down, ↓reduceIte, Nat.reduceEqDiff, Nat.reduceAdd, TEP, tis, hgE, hgS]
  refine awpL_vc rfl rfl ?_
  simp only [sz.down, ↓reduceIte, Nat.reduceEqDiff, TEP]
  refine awpL_nil ?_
  show awp _ _ _ _ _ _ _
  refine vc_ok mixed _ _ _ _ ?_
  simp only [sz.down, ↓reduceIte, Nat.reduceLT, reduceCtorEq, TEP]
  exact hK

theorem perr_some {s : S} {c1 c2 c3 d1 d2 d3 : V} {G : H} {K : H → (Nat → Bool) → Prop} (a : Nat) (e : Int) (hs : s.length ≤ 1000000000) (hK : ∀ X, K (.cells [.str s] :: .cells [vi 0, .nils, .nils] :: .cells (spFail s a e).vc :: (G ++ [X])) (fun _ => false)) :
    ACallsD TE 118 [.lp 0 0, .lp 1 0, .lp 2 0] (wfail a e) (.cells [.str s] :: .cells [c1, c2, c3] :: .cells [d1, d2, d3] :: G) K := by
  have hgE : ∀ x : O, (G ++ [x])[G.length]? = some x := fun x => by simp
  have hgS : ∀ x y : O, (G ++ [x]).set G.length y = G ++ [y] := fun x y => by simp
  
  refine ACallsD.of_awp rfl Tryz.func118 rfl rfl (by simp [nts]) rfl (fun ev w => rfl) rfl (by decide) ?_
  simp only [nts]
  refine awpL_vc rfl rfl ?_
  simp only [sz.down, ↓reduceIte, TEP, tis]
  refine ⟨by decide, ?_⟩
  refine awpL_vc rfl rfl ?_
  simp only [sz.down, ↓reduceIte, TEP]
  refine awpL_vc rfl rfl ?_
  simp only [sz.down, ↓reduceIte, Nat.reduceLT, Nat.reduceAdd, TEP]
  refine awpL_vc rfl rfl ?_
  simp only [sz.down, ↓reduceIte, Nat.reduceEqDiff, Nat.reduceLT, Nat.reduceAdd, TEP]
  refine awpL_vc rfl rfl ?_
  simp only [sz.down, TEP, tis]
  refine awpL_vc rfl rfl ?_
  simp only [sz.down, ↓reduceIte, Nat.reduceEqDiff, Nat.reduceAdd, TEP, tis, hgE, hgS]
  refine awpL_vc rfl rfl ?_
  simp only [sz.down, ↓reduceIte, Nat.reduceEqDiff, TEP]
  refine awpL_nil ?_
  show awp _ _ _ _ _ _ _
  have hf : ∃ x y z, spFail s a e = .agg [vi x, vi y, vi z] := by unfold spFail; split <;> exact ⟨_, _, _, rfl⟩
  obtain ⟨x, y, z, hf⟩ := hf
  rw [hf] at hK
  have hsf := ev_sfail s a e hs
  rw [hf] at hsf
  refine awp_seq (vc_ok mixed _ _ _ _ ?_)
  simp only [sz.down, ↓reduceIte, Nat.reduceLT, TEP]
  refine vc_ok mixed _ _ _ _ ?_
  simp only [sz.down, ↓reduceIte, Nat.reduceEqDiff, Nat.reduceLT, Nat.reduceLeDiff, Nat.reduceAdd, reduceCtorEq, TEP, tis, ens, hgE]
  refine ACalls.ev hsf rfl ?_
  simp only [sz.down, ↓reduceIte, Nat.reduceEqDiff, Nat.reduceAdd, reduceCtorEq, TEP, tis]
  exact hK _


/-! ### What parsing tells -/
def stepsR (s : S) : Nat → Nat → List Cl → (Nat × List Cl) ⊕ Nat
  | 0, a, L => .inl (a, L)
  | k + 1, a, L => if isAt s a 46 then .inl (a, L) else if isAt s (a + (lineS s a).length) 10 then stepsR s k (a + (lineS s a).length + 1) (L ++ [lineV s a]) else .inr (a + (lineS s a).length)
def parse4 (s : S) (b : Int) (st : Cl) : (Nat × List Cl) ⊕ Nat → (Nat × Int) ⊕ Wi
  | .inr a => .inl (a, 2)
  | .inl (a, L) => if mt [46, 10] (s.drop a) = 2 then (if a + 2 = s.length then .inr ⟨b, st, L⟩ else .inl (a + 2, 2)) else .inl (a + mt [46, 10] (s.drop a), 2)
def parse3 (s : S) (b : Int) (a : Nat) : (Nat × Int) ⊕ Wi :=
  if isAt s (a + (lineS s a).length) 10 then parse4 s b (lineV s a) (stepsR s (s.length + 1) (a + (lineS s a).length + 1) []) else .inl (a + (lineS s a).length, 2)
def parse2 (s : S) (r : Int × Int × Int) : (Nat × Int) ⊕ Wi :=
  if r.2.2 = 0 then (if mt [10] (s.drop r.2.1.toNat) = 1 then parse3 s r.1 (r.2.1.toNat + 1) else .inl (r.2.1.toNat, 2)) else .inl (3, r.2.2)
def parseR (s : S) : (Nat × Int) ⊕ Wi :=
  if mt [49, 10, 98] s = 3 then parse2 s (getR s 3) else .inl (mt [49, 10, 98] s, 2)
def parseV (s : S) : V := match parseR s with
  | .inl (a, e) => .tup [.agg [vi 0, ints [], cls []], spFail s a e]
  | .inr w => .tup [w.v, .agg [vi 0, vi 0, vi 0]]
def planP4 : Plan := .take 1 <| .take 2 <| .take 3 <| .alt 0 (.one 4 <| .one 5 <| .take 6 <| .alt 7 (.take 10 <| .alt 8 (.take 11 <| .one 9 <| .take 12 <| .fin) (.one 9 (.one 8 <| .take 11 <| .take 12 <| .fin))) (.alt 8 (.alt 7 (.take 10 <| .take 11 <| .one 9 <| .take 12 <| .fin) (.one 9 (.one 7 <| .take 10 <| .take 11 <| .take 12 <| .fin))) (.one 9 (.alt 7 (.take 10 <| .one 8 <| .take 11 <| .take 12 <| .fin) (.one 8 (.one 7 <| .take 10 <| .take 11 <| .take 12 <| .fin)))))) (.one 4 (.one 0 <| .one 5 <| .take 6 <| .alt 7 (.take 10 <| .alt 8 (.take 11 <| .one 9 <| .take 12 <| .fin) (.one 9 (.one 8 <| .take 11 <| .take 12 <| .fin))) (.alt 8 (.alt 7 (.take 10 <| .take 11 <| .one 9 <| .take 12 <| .fin) (.one 9 (.one 7 <| .take 10 <| .take 11 <| .take 12 <| .fin))) (.one 9 (.alt 7 (.take 10 <| .one 8 <| .take 11 <| .take 12 <| .fin) (.one 8 (.one 7 <| .take 10 <| .take 11 <| .take 12 <| .fin)))))))
def planP10 : Plan := .take 0 <| .take 2 <| .alt 1 (.one 3 <| .one 4 <| .one 5 <| .take 6 <| .one 7 <| .fin) (.one 3 (.alt 1 (.one 4 <| .one 5 <| .take 6 <| .one 7 <| .fin) (.one 4 (.one 1 <| .one 5 <| .take 6 <| .one 7 <| .fin))))
def planP12 : Plan := .take 0 <| .take 1 <| .take 2 <| .take 3 <| .alt 4 (.one 5 <| .one 6 <| .one 7 <| .one 8 <| .fin) (.one 5 (.alt 4 (.one 6 <| .one 7 <| .one 8 <| .fin) (.one 6 (.one 4 <| .one 7 <| .one 8 <| .fin))))

theorem getR_ok {s : S} (h3 : 3 ≤ s.length) (he : (getR s 3).2.2 = 0) : ∃ b : Nat, (getR s 3).2.1 = b ∧ 3 ≤ b ∧ b ≤ s.length := by
  unfold getR at he ⊢
  split at he
  · cases he
  · rename_i h1
    rw [if_neg h1]
    split at he
    · rename_i h2
      rw [if_pos h2]
      have := (List.takeWhile_prefix (p := isDig) (l := s.drop (3 : Int).toNat)).length_le
      refine ⟨3 + ((s.drop (3 : Int).toNat).takeWhile isDig).length, by simp, by omega, ?_⟩
      rw [List.length_drop] at this
      simp at this ⊢
      omega
    · cases he
theorem isAt_lt {s : S} {a : Nat} {c : UInt8} (h : isAt s a c = true) : a < s.length := by
  unfold isAt at h
  simp only [beq_iff_eq] at h
  exact (List.getElem?_eq_some_iff.1 h).1
theorem mt_room {t s : S} (h : mt t s = t.length) : t.length ≤ s.length := ((mt_full t s).1 h).length_le

set_option maxHeartbeats 8000000 in
theorem ev_wparse (s : S) (hs : s.length ≤ 100000) : Ev TE 49 [.str s] (parseV s) := by
  have hM : maxLen = 9223372036854775807 := rfl
  refine Ev.of_calls ?_
  
  refine ACalls.of_awpM rfl Tryz.func49 rfl (by simp [nts]) fun ok pl0 w0 => ?_
  simp only [nts]
  refine awpM_seq (Q := fun _ _ _ => False) ?_ (fun _ _ _ h => by obtain ⟨_, _, _, _, _, _, h⟩ := h; exact h.elim)
  refine vc_ok mixed _ _ _ _ ?_
  simp only [sz.down, Nat.reduceLT, Nat.reduceAdd, TEP, tis]
  refine awpM_defer2 rfl (fn := Tryz.f49) (q := 118) (caps := [.lp 0 0, .lp 1 0, .lp 2 0]) (fx := .tmp 8) rfl rfl (by simp only [sz.down, ↓reduceIte, Nat.reduceEqDiff, TEP]) rfl rfl rfl rfl (by simp only [sz.down, ↓reduceIte, Nat.reduceEqDiff, TEP]) (by simp only [sz.down, ↓reduceIte, Nat.reduceEqDiff, TEP]) (by simp only [sz.down, TEP, ens]) rfl fun dd => ?_
  simp only [nts]
  obtain ⟨ee, hee⟩ : ∃ ee : E, ee = { TE with tl := [dd] } := ⟨_, rfl⟩
  have hP : ee.P = P := by rw [hee]; rfl
  have hmix : ee.P.follows .mixedOrders = true := by rw [hP]; exact mixed
  have hT : ∀ {g : FuncId} {args : List V} {h : H} {R : AEnd → H → (Nat → Bool) → Prop}, ACalls TE g args h R → ACalls ee g args h R := fun hc => by rw [hee]; exact hc.tl _
  rw [← hee]
  obtain ⟨QP, eQP⟩ : ∃ QP : XE → Fr → H → Prop, QP = fun xe f' h' => f'.d = [] ∧ V.drops f'.k [V.lp 0 0, V.lp 1 0, V.lp 2 0] = [V.lp 0 0, V.lp 1 0, V.lp 2 0] ∧ (match xe with
      | .pan v => ACallsD TE 118 [V.lp 0 0, V.lp 1 0, V.lp 2 0] v h' fun h'' p => fnEnd TE.P Tryz.f49.results.toList (fun v h k => Reif TE h v (parseV s)) (f'.drop p) h''
      | .ret => ACallsR TE 118 [V.lp 0 0, V.lp 1 0, V.lp 2 0] h' fun h'' p => fnEnd TE.P Tryz.f49.results.toList (fun v h k => Reif TE h v (parseV s)) (f'.drop p) h''
      | _ => False) := ⟨_, rfl⟩
  refine awp_mono (Q := QP) (fun xe f' h' hq => by rw [eQP] at hq; exact hq) ?_
  have hkd : ∀ {k : Nat → Bool}, (∀ j, j < 4 → k j = false) → V.drops k [V.lp 0 0, V.lp 1 0, V.lp 2 0] = [V.lp 0 0, V.lp 1 0, V.lp 2 0] := fun {k} h => by
    have z0 := h 0 (by decide)
    have z1 := h 1 (by decide)
    have z2 := h 2 (by decide)
    simp only [V.drops, V.drop, z0, z1, z2, if_false, Bool.false_eq_true]
  have hpan : ∀ {a : Nat} {e : Int} {f' : Fr} {c1 c2 c3 d1 d2 d3 : V} {G : H}, parseR s = .inl (a, e) → f'.d = [] → (∀ j, j < 4 → f'.k j = false) → f'.t 2 = .lp 1 0 → f'.t 3 = .lp 2 0 → QP (.pan (wfail a e)) f' (.cells [.str s] :: .cells [c1, c2, c3] :: .cells [d1, d2, d3] :: G) := by
    intro a e f' c1 c2 c3 d1 d2 d3 G hp hd hk h2 h3
    rw [eQP]
    refine ⟨hd, hkd hk, ?_⟩
    refine perr_some a e (by omega) fun X => ?_
    have hv : parseV s = .tup [.agg [vi 0, ints [], cls []], spFail s a e] := by unfold parseV; rw [hp]
    rw [hv]
    have hf : ∃ x y z, spFail s a e = .agg [vi x, vi y, vi z] := by unfold spFail; split <;> exact ⟨_, _, _, rfl⟩
    obtain ⟨x, y, z, hf⟩ := hf
    rw [hf]
    simp only [Tryz.results49]
    simp only [sz.down, ↓reduceIte, Nat.reduceEqDiff, Nat.reduceAdd, reduceCtorEq, TEP, tis, hd, h2, h3]
    exact Reif.tup (Reifs.cons (Reif.agg (Reifs.cons (Reif.dat rfl) (Reifs.cons Reif.nils (Reifs.cons Reif.nils Reifs.nil)))) (Reifs.cons (Reif.dat rfl) Reifs.nil))
  have hret : ∀ {w : Wi} {f' : Fr} {G : H}, parseR s = .inr w → f'.d = [] → (∀ j, j < 4 → f'.k j = false) → f'.t 2 = .lp 1 0 → f'.t 3 = .lp 2 0 → G[1]? = some (.cells (w.steps.map ints)) → QP .ret f' (.cells [.str s] :: .cells [vi w.bad, ints w.st, .ls 4 1 0 w.steps.length w.steps.length] :: .cells [vi 0, vi 0, vi 0] :: G) := by
    intro w f' G hp hd hk h2 h3 hG
    rw [eQP]
    refine ⟨hd, hkd hk, ?_⟩
    refine perr_none ?_
    have hv : parseV s = .tup [w.v, .agg [vi 0, vi 0, vi 0]] := by unfold parseV; rw [hp]
    rw [hv]
    simp only [Tryz.results49]
    simp only [sz.down, ↓reduceIte, Nat.reduceEqDiff, Nat.reduceAdd, reduceCtorEq, TEP, tis, hd, h2, h3]
    exact Reif.tup (Reifs.cons (Reif.agg (Reifs.cons (Reif.dat rfl) (Reifs.cons (Reif.dat (by simp only [V.dat])) (Reifs.cons (Reif.ls (by
      show (_ :: _ :: _ :: (G ++ _))[4]? = _
      simp only [List.getElem?_cons_succ]
      rw [List.getElem?_append_left (List.getElem?_eq_some_iff.1 hG).1]
      exact hG) (Reifs.dat (cls_ok _).1) (cls_ok _).2.1 (cls_ok _).2.2 (by simp)) Reifs.nil)))) (Reifs.cons (Reif.dat rfl) Reifs.nil))
  refine awp_seq (vc_ok hmix _ _ _ _ ?_)
  simp only [sz.down, ↓reduceIte, Nat.reduceEqDiff, Nat.reduceLT, Nat.reduceLeDiff, Nat.reduceAdd, TEP, tis, hP]
  refine awp_seq (vc_ok hmix _ _ _ _ ?_)
  simp only [sz.down, ↓reduceIte, Nat.reduceLT, Nat.reduceLeDiff, Nat.reduceAdd, ens, hP]
  refine hT (wtext_calls (a := 0) (s := s) (by rfl) (by show 0 + 3 ≤ _; omega) (fun hm => ?_) (fun j hj hm => ?_))
  · have hm3 : mt [49, 10, 98] s = 3 := hm
    have hlen3 : 3 ≤ s.length := mt_room (t := [49, 10, 98]) hm
    simp only [sz.down, Nat.reduceAdd]
    obtain ⟨r, er⟩ : ∃ r, r = getR s 3 := ⟨_, rfl⟩
    have hg3 : Ev TE 120 [.str s, vi 3] (.tup [vi r.1, vi r.2.1, vi r.2.2]) := er ▸ ev_Get s 3 hs
    refine awp_seq (awp_planP hmix planP4 (fun f' h' => f'.t 1 = .lp 0 0 ∧ f'.t 2 = .lp 1 0 ∧ f'.t 3 = .lp 2 0 ∧ f'.t 4 = .lp 3 0 ∧ f'.t 5 = vi r.1 ∧ f'.t 6 = vi r.2.1 ∧ f'.t 7 = vi r.2.2 ∧ f'.d = [] ∧ (∀ j, f'.k j = false) ∧ h' = [.cells [.str s], .cells [vi 0, .nils, .nils], .cells [vi 0, vi 0, vi 0], rd s 3]) [] (fun _ _ _ _ _ => False) (by rw [hP]; decide +kernel) (by decide +kernel) ?_ ?_ (fun _ _ _ h => h.elim))
    · simp only [sz.down, ↓reduceIte, Nat.reduceEqDiff, Nat.reduceLT, Nat.reduceAdd, tis, ens, planP4, hP]
      refine ⟨hT (ACalls.ev hg3 rfl ?_), hT (ACalls.ev hg3 rfl ?_)⟩
      · simp only [sz.down, ↓reduceIte, Nat.reduceEqDiff, Nat.reduceLT, Nat.reduceAdd, hP, onlyP_normal]
        repeat' apply And.intro
        all_goals first | rfl | exact fun _ => rfl
      · simp only [sz.down, ↓reduceIte, Nat.reduceEqDiff, Nat.reduceLT, Nat.reduceAdd, hP, onlyP_normal]
        repeat' apply And.intro
        all_goals first | rfl | exact fun _ => rfl
    · rintro f h ⟨h1, h2, h3, h4, h5, h6, h7, hd, hk, rfl⟩
      have hkf : f.k = fun _ => false := funext hk
      refine awp_seq (vc_ok hmix _ _ _ _ ?_)
      simp only [sz.down, ↓reduceIte, Nat.reduceEqDiff, Nat.reduceLT, ens, hP, h4, h7]
      refine hT (wneed_calls (a := 3) (s := s) (r.2.2 == 0) r.2.2 (by rfl) (fun he => ?_) (fun he => ?_))
      · have he : r.2.2 = 0 := by simpa using he
        obtain ⟨b, hb1, hb3, hb⟩ := getR_ok hlen3 (er ▸ he)
        rw [← er] at hb1
        rw [hb1] at h6
        simp only [sz.down]
        refine awp_seq (vc_ok hmix _ _ _ _ ?_)
        simp only [sz.down, ↓reduceIte, Nat.reduceEqDiff, Nat.reduceLT, Nat.reduceLeDiff, Nat.reduceAdd, tis, hP, h2, h4, h5, h6]
        refine awp_seq (vc_ok hmix _ _ _ _ ?_)
        simp only [sz.down, ↓reduceIte, Nat.reduceEqDiff, Nat.reduceLT, Nat.reduceLeDiff, ens, hP, h4]
        refine hT (wtext_calls (a := b) (s := s) (by rfl) (by show b + 1 ≤ _; omega) (fun hm => ?_) (fun j hj hm => ?_))
        · simp only [sz.down]
          refine awp_seq (vc_ok hmix _ _ _ _ ?_)
          simp only [sz.down, ↓reduceIte, Nat.reduceEqDiff, Nat.reduceLT, ens, hP, h4]
          have hm1 : mt [10] (s.drop b) = 1 := hm
          have hbl : b + 1 ≤ s.length := by
            have := mt_room (t := [10]) (s := s.drop b) hm1
            simp only [List.length_drop, List.length_singleton] at this
            omega
          obtain ⟨a1, ha1⟩ : ∃ a1, a1 = b + 1 := ⟨_, rfl⟩
          rw [← ha1] at hbl ⊢
          have hp3 : parseR s = parse3 s r.1 a1 := by
            unfold parseR parse2
            rw [if_pos hm3, ← er, if_pos he, hb1, Int.toNat_natCast, if_pos hm1, ha1]
          have z1 : from_ 4 1 = false := rfl
          have z2 : from_ 4 2 = false := rfl
          have z3 : from_ 4 3 = false := rfl
          have z0 : from_ 4 0 = false := rfl
          refine hT (wvalues_calls (a := a1) (s := s) (by rfl) (fun p hp => rfl) hbl (by omega) (fun hl => ?_) (fun hl => ?_))
          · obtain ⟨st, hst⟩ : ∃ st, st = lineV s a1 := ⟨_, rfl⟩
            obtain ⟨a2, ha2⟩ : ∃ a2, a2 = a1 + (lineS s a1).length + 1 := ⟨_, rfl⟩
            rw [← hst, ← ha2]
            have hal2 : a2 ≤ s.length := by have := isAt_lt hl; omega
            have hp4 : parseR s = parse4 s r.1 st (stepsR s (s.length + 1) a2 []) := by
              rw [hp3]; unfold parse3; rw [if_pos hl, ha2, hst]
            simp only [sz.down, ↓reduceIte, Nat.reduceEqDiff, Nat.reduceLT, Nat.reduceLeDiff, Nat.reduceAdd, tis, callK_p, hP, h2, hd, z1]
            refine awp_bare ?_
            refine awp_leH (h' := [.cells [.str s], .cells [vi r.1, ints st, .ls 4 1 0 0 0], .cells [vi 0, vi 0, vi 0], rd s a2, .cells []]) (HLe.set (i := 1) (o' := .cells [vi r.1, ints st, .ls 4 1 0 0 0]) rfl (OLe.cells (Nat.le_refl _) (VLes.cons (VLe.refl _) (VLes.cons (VLe.refl _) (VLes.cons VLe.nil_ls (VLes.refl _)))))) ?_
            refine awp_seq (awp_mono (Q := fun xe f' h' => (xe = .normal ∧ ∃ (a : Nat) (L : List Cl), stepsR s (s.length + 1) a2 [] = .inl (a, L) ∧ a ≤ s.length ∧ f'.t 1 = .lp 0 0 ∧ f'.t 2 = .lp 1 0 ∧ f'.t 3 = .lp 2 0 ∧ f'.t 4 = .lp 3 0 ∧ f'.d = [] ∧ (∀ j, j < 4 → f'.k j = false) ∧ h' = [.cells [.str s], .cells [vi r.1, ints st, .ls 4 1 0 L.length L.length], .cells [vi 0, vi 0, vi 0], rd s a, .cells (L.map ints)]) ∨ (∃ v, xe = .pan v ∧ QP (.pan v) f' h')) ?_ ?_)
            · rintro xe f1 hh (⟨rfl, a, L, hst', hal, g1, g2, g3, g4, gd, gk, rfl⟩ | ⟨v, rfl, hq⟩)
              · show awp _ _ _ _ _ _ _
                have hgk : ∀ j, j < 4 → f1.k j = false := gk
                have hp5 : parseR s = parse4 s r.1 st (.inl (a, L)) := by rw [hp4, hst']
                refine awp_seq (vc_ok hmix _ _ _ _ ?_)
                simp only [sz.down, ↓reduceIte, Nat.reduceLT, Nat.reduceLeDiff, Nat.reduceAdd, ens, hP, g4]
                refine hT (wtext_calls (a := a) (s := s) (by rfl) (by show a + 2 ≤ _; omega) (fun hm => ?_) (fun j hj hm => ?_))
                · simp only [sz.down, Nat.reduceAdd]
                  refine awp_seq (awp_planP hmix planP12 (fun f' h' => a + 2 = s.length ∧ f'.t 1 = .lp 0 0 ∧ f'.t 2 = .lp 1 0 ∧ f'.t 3 = .lp 2 0 ∧ f'.t 4 = .lp 3 0 ∧ f'.d = [] ∧ (∀ j, j < 4 → f'.k j = false) ∧ h' = [.cells [.str s], .cells [vi r.1, ints st, .ls 4 1 0 L.length L.length], .cells [vi 0, vi 0, vi 0], rd s (a + 2), .cells (L.map ints)]) [2, 3] (fun v d k t h' => d = [] ∧ (∀ j, j < 4 → k j = false) ∧ t = [.lp 1 0, .lp 2 0] ∧ a + 2 ≠ s.length ∧ v = wfail (a + 2) 2 ∧ h' = [.cells [.str s], .cells [vi r.1, ints st, .ls 4 1 0 L.length L.length], .cells [vi 0, vi 0, vi 0], rd s (a + 2), .cells (L.map ints)]) (by rw [hP]; decide +kernel) (by decide +kernel) ?_ ?_ ?_)
                  · simp only [sz.down, ↓reduceIte, Nat.reduceEqDiff, Nat.reduceLT, Nat.reduceAdd, tis, ens, planP12, hP, g1, g4]
                    refine ⟨?_, ?_, ?_⟩
                    all_goals
                      refine hT (wneed_calls (a := a + 2) (s := s) _ 2 (by rfl) (fun he => ?_) (fun he => ?_))
                      · have he : a + 2 = s.length := by
                          have he := eq_of_beq he
                          omega
                        simp only [sz.down, ↓reduceIte, Nat.reduceEqDiff, g1, g2, g3, g4, gd, onlyP_normal]
                        exact ⟨he, gk⟩
                      · have he : a + 2 ≠ s.length := by
                          have he := ne_of_beq_false he
                          omega
                        simp only [sz.down, ↓reduceIte, Nat.reduceEqDiff, callK, g2, g3, gd, onlyP_pan]
                        exact ⟨gk, he⟩
                  · rintro f2 h2 ⟨hl2, k1, k2, k3, k4, kd, kk, rfl⟩
                    refine awp_seq (vc_ok hmix _ _ _ _ ?_)
                    simp only [sz.down, ↓reduceIte, Nat.reduceEqDiff, Nat.reduceLT, Nat.reduceAdd, reduceCtorEq, tis, hP, k2, k3]
                    refine vc_ok hmix _ _ _ _ ?_
                    simp only [sz.down]
                    refine hret (w := ⟨r.1, st, L⟩) (G := [rd s (a + 2), .cells (L.map ints)]) ?_ (by simp only [sz.down, kd]) (fun j hj => by simp only [sz.down, kk j hj]) (by simp only [sz.down, ↓reduceIte, Nat.reduceEqDiff, k2]) (by simp only [sz.down, ↓reduceIte, Nat.reduceEqDiff, k3]) rfl
                    rw [hp5]
                    show (if mt [46, 10] (s.drop a) = 2 then _ else _) = _
                    rw [if_pos (show _ = 2 from hm), if_pos hl2]
                  · rintro v f2 h2 ⟨kd, kk, kt, hl2, rfl, rfl⟩
                    simp only [List.map_cons, List.map_nil, List.cons.injEq, and_true] at kt
                    show QP _ _ _
                    refine hpan (a := a + 2) (e := 2) ?_ kd kk kt.1 kt.2
                    rw [hp5]
                    show (if mt [46, 10] (s.drop a) = 2 then _ else _) = _
                    rw [if_pos (show _ = 2 from hm), if_neg hl2]
                · simp only [sz.down, callK, gd]
                  refine hpan (a := a + j) (e := 2) ?_ (by simp only [sz.down, gd]) (fun j hj => by simp only [sz.down, gk j hj]) (by simp only [sz.down, ↓reduceIte, Nat.reduceEqDiff, g2]) (by simp only [sz.down, ↓reduceIte, Nat.reduceEqDiff, g3])
                  rw [hp5]
                  show (if mt [46, 10] (s.drop a) = 2 then _ else _) = _
                  rw [if_neg (by rw [hm]; exact Nat.ne_of_lt hj), hm]
              · exact hq
            · refine awp_block ?_
              refine awp_loop (fun m f' h' => ∃ (a : Nat) (L : List Cl), stepsR s (s.length + 1) a2 [] = stepsR s m a L ∧ s.length < m + a ∧ L.length ≤ a ∧ a ≤ s.length ∧ f'.t 1 = .lp 0 0 ∧ f'.t 2 = .lp 1 0 ∧ f'.t 3 = .lp 2 0 ∧ f'.t 4 = .lp 3 0 ∧ f'.d = [] ∧ (∀ j, j < 4 → f'.k j = false) ∧ h' = [.cells [.str s], .cells [vi r.1, ints st, .ls 4 1 0 L.length L.length], .cells [vi 0, vi 0, vi 0], rd s a, .cells (L.map ints)]) (s.length + 1)
                ⟨a2, [], rfl, by omega, Nat.zero_le _, hal2, by simp only [sz.down, ↓reduceIte, Nat.reduceEqDiff, h1, z0], by simp only [sz.down, ↓reduceIte, Nat.reduceEqDiff, h2, z1], by simp only [sz.down, ↓reduceIte, Nat.reduceEqDiff, h3, z2], by simp only [sz.down, ↓reduceIte, Nat.reduceEqDiff, h4, z3], by simp only [sz.down, hd], fun j hj => by (simp only [sz.down, hkf]; simp [from_]; omega), rfl⟩ ?_
              rintro m f1 hh ⟨a, L, hm, hma, hLa, hal, g1, g2, g3, g4, gd, gk, rfl⟩
              obtain ⟨m, rfl⟩ : ∃ m', m = m' + 1 := ⟨m - 1, by omega⟩
              refine awp_seq (vc_ok hmix _ _ _ _ ?_)
              simp only [sz.down, ↓reduceIte, Nat.reduceLT, ens, hP, g4]
              refine hT (wis_calls (a := a) (s := s) 46 (by rfl) ?_)
              have hm' := hm
              rw [show stepsR s (m + 1) a L = (if isAt s a 46 then .inl (a, L) else if isAt s (a + (lineS s a).length) 10 then stepsR s m (a + (lineS s a).length + 1) (L ++ [lineV s a]) else .inr (a + (lineS s a).length)) from rfl] at hm'
              cases hdot : isAt s a 46 with
              | true =>
                rw [hdot, if_pos rfl] at hm'
                simp only [sz.down, ↓reduceIte, Nat.reduceEqDiff, Nat.reduceLT, reduceCtorEq, hP, g1, g2, g3, g4, gd]
                exact .inl ⟨a, L, hm', hal, gk, rfl⟩
              | false =>
                rw [hdot, if_neg Bool.false_ne_true] at hm'
                simp only [sz.down, ↓reduceIte, Nat.reduceLT, hP]
                refine awp_block ?_
                obtain ⟨A, hA⟩ : ∃ A, A = a + (lineS s a).length := ⟨_, rfl⟩
                rw [← hA] at hm'
                refine awp_planP hmix planP10 (fun f' h' => isAt s A 10 = true ∧ f'.t 1 = .lp 0 0 ∧ f'.t 2 = .lp 1 0 ∧ f'.t 3 = .lp 2 0 ∧ f'.t 4 = .lp 3 0 ∧ f'.d = [] ∧ (∀ j, j < 4 → f'.k j = false) ∧ h' = [.cells [.str s], .cells [vi r.1, ints st, .ls 4 1 0 (L ++ [lineV s a]).length (L ++ [lineV s a]).length], .cells [vi 0, vi 0, vi 0], rd s (A + 1), .cells ((L ++ [lineV s a]).map ints)]) [2, 3] (fun v d k t h' => d = [] ∧ (∀ j, j < 4 → k j = false) ∧ t = [.lp 1 0, .lp 2 0] ∧ isAt s A 10 = false ∧ v = wfail A 2 ∧ ∃ z, h' = [.cells [.str s], .cells [vi r.1, ints st, z], .cells [vi 0, vi 0, vi 0], rd s A, .cells (L.map ints)]) (by rw [hP]; decide +kernel) (by decide +kernel) ?_ ?_ ?_
                · have y0 : from_ 5 0 = false := rfl
                  have y1 : from_ 5 1 = false := rfl
                  have y2 : from_ 5 2 = false := rfl
                  have y3 : from_ 5 3 = false := rfl
                  have y4 : from_ 5 4 = false := rfl
                  have hgk : ∀ j, j < 4 → (f1.k j || from_ 5 j) = false := fun j hj => by
                    rw [gk j hj]; simp [from_]; omega
                  have hgk2 : ∀ j, j < 4 → (f1.k j || from_ 5 j || j == 4) = false := fun j hj => by
                    rw [hgk j hj]; simp; omega
                  have hdi : ∀ (p : Nat → Bool) (L : List Cl), V.drops p (L.map ints) = L.map ints := fun p L => by
                    induction L with
                    | nil => rfl
                    | cons c L ih => rw [List.map_cons, V.drops, ih]; rfl
                  simp only [sz.down, ↓reduceIte, Nat.reduceEqDiff, Nat.reduceLT, Nat.reduceAdd, tis, ens, planP10, hP, g2, g4]
                  repeat' apply And.intro
                  all_goals
                    refine hT (wvalues_calls (a := a) (s := s) (by rfl) (fun p hp => ?_) hal (by omega) (fun hl => ?_) (fun hl => ?_))
                    · have q4 : p 4 = false := hp 4 (by simp)
                      simp only [List.map_cons, List.map_nil, O.drop, V.drops, V.drop, q4, hdi, if_false, Bool.false_eq_true]
                    · rw [← hA] at hl ⊢
                      simp only [sz.down, ↓reduceIte, Nat.reduceEqDiff, Nat.reduceLT, Nat.reduceAdd, Nat.reduceBEq, reduceCtorEq, Nat.reduceMul, tis, callK_p, hP, g1, g2, g3, g4, gd, onlyP_normal, y0, y1, y2, y3, y4, hdi]
                      exact ⟨⟨rfl, by decide⟩, ⟨by omega, by omega, by omega⟩, hl, hgk2⟩
                    · rw [← hA] at hl ⊢
                      simp only [sz.down, ↓reduceIte, Nat.reduceEqDiff, Nat.reduceAdd, callK, g2, g3, gd, onlyP_pan, y1, y2]
                      exact ⟨hgk, hl, _, rfl⟩
                · rintro f2 h2 ⟨hl, k1, k2, k3, k4, kd, kk, rfl⟩
                  have hAl := isAt_lt hl
                  rw [hl, if_pos rfl] at hm'
                  exact .inl ⟨m, by omega, A + 1, L ++ [lineV s a], hm', by omega, by simp; omega, by omega, k1, k2, k3, k4, kd, kk, rfl⟩
                · rintro v f2 h2 ⟨kd, kk, kt, hl, rfl, z, rfl⟩
                  simp only [List.map_cons, List.map_nil, List.cons.injEq, and_true] at kt
                  rw [hl, if_neg Bool.false_ne_true] at hm'
                  show _ ∨ _
                  refine .inr ⟨_, rfl, hpan (a := A) (e := 2) ?_ kd kk kt.1 kt.2⟩
                  rw [hp4, hm']
                  rfl
          · simp only [sz.down, Nat.reduceAdd, callK, hd]
            refine hpan (a := a1 + (lineS s a1).length) (e := 2) ?_ (by simp only [sz.down, hd]) (fun j hj => ?_) (by simp only [sz.down, ↓reduceIte, Nat.reduceEqDiff, h2, z1]) (by simp only [sz.down, ↓reduceIte, Nat.reduceEqDiff, h3, z2])
            · rw [hp3]
              unfold parse3
              rw [if_neg (by rw [hl]; decide)]
            · simp only [sz.down, hkf]
              simp [from_]
              omega
        · have hj0 : j = 0 := by simpa using hj
          subst hj0
          simp only [sz.down, callK, hd]
          refine hpan (a := b) (e := 2) ?_ (by simp only [sz.down, hd]) (fun j hj => by simp only [sz.down, hkf]) (by simp only [sz.down, ↓reduceIte, Nat.reduceEqDiff, h2]) (by simp only [sz.down, ↓reduceIte, Nat.reduceEqDiff, h3])
          unfold parseR parse2
          rw [if_pos hm3, ← er, if_pos he, hb1, Int.toNat_natCast, if_neg (by rw [hm]; decide)]
      · have he : ¬ r.2.2 = 0 := by simpa using he
        simp only [sz.down, callK, hd]
        refine hpan (a := 3) (e := r.2.2) ?_ (by simp only [sz.down, hd]) (fun j hj => by simp only [sz.down, hkf]) (by simp only [sz.down, ↓reduceIte, Nat.reduceEqDiff, h2]) (by simp only [sz.down, ↓reduceIte, Nat.reduceEqDiff, h3])
        unfold parseR parse2
        rw [if_pos hm3, ← er, if_neg he]
  · simp only [sz.down, callK]
    refine hpan (a := j) (e := 2) ?_ rfl (fun _ _ => rfl) rfl rfl
    unfold parseR
    rw [if_neg (by rw [show mt [49, 10, 98] s = j from hm]; exact Nat.ne_of_lt hj), show mt [49, 10, 98] s = j from hm]

end Go.Proofs.YtboolnpmlmgpkaaGreatDoor
