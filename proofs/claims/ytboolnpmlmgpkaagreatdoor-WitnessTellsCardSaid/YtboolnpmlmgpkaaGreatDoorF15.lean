/- Functions of the program, part 15. -/
import Derived.Test.YtboolnpmlmgpkaaGreatDoorF14
set_option linter.unusedVariables false
set_option maxRecDepth 20000
set_option linter.unusedSimpArgs false
set_option linter.unnecessarySimpa false
namespace Go.Proofs.YtboolnpmlmgpkaaGreatDoor
open Go Go.Proofs Go.Abs

/-- A model whose rows are few. -/
structure Mo.Bd (m : Mo) : Prop where
  bn : m.g.next.length ≤ 4000
  bi : m.g.init.length ≤ 4000
  ba : m.g.ands.length ≤ 4000
  bo : m.g.outs.length ≤ 4000
  b1 : m.ins.length ≤ 4000
  b2 : m.lat.length ≤ 4000
  b3 : m.out.length ≤ 4000

set_option maxHeartbeats 4000000 in
theorem ev_rfits (m : Mo) (w : Wi) (hb : m.Bd) (hl : w.steps.length ≤ 1000) : Ev TE 36 [m.v, w.v] (vi (Wi.fits m w)) := by
  have hM : maxLen = 9223372036854775807 := rfl
  have hck := ev_r11check m hb.bn hb.bi hb.ba hb.bo hb.b1 hb.b2 hb.b3
  have hsz := ev_rsizes m w hl
  unfold Mo.v at hck hsz ⊢
  unfold Wi.v at hsz ⊢
  refine Ev.of_awp Tryz.func36 rfl (by simp [nts]) (vc_ok mixed _ _ _ _ ?_)
  simp only [sz.down, ↓reduceIte, Nat.reduceEqDiff, Nat.reduceLT, Nat.reduceAdd, reduceCtorEq, TEP, tis, ens, nts, Tryz.results36]
  refine ACalls.ev hck rfl ?_
  simp only [sz.down, ↓reduceIte, Nat.reduceLT, TEP]
  refine vcB.mk (fun hc => ?_) (fun hc => ?_)
  · simp only [sz.down, ↓reduceIte, Nat.reduceEqDiff, Nat.reduceLT, TEP]
    exact Reif.eq rfl (by unfold Wi.fits; rw [if_pos (by simpa using hc)])
  · have hm : m.chk = 0 := by simpa using hc
    simp only [sz.down, ↓reduceIte, Nat.reduceEqDiff, Nat.reduceLT, Nat.reduceAdd, reduceCtorEq, TEP, tis, ens]
    refine ACalls.ev hsz rfl ?_
    cases h1 : Wi.sized m w with
    | false =>
      simp only [sz.down, ↓reduceIte, Nat.reduceLT, TEP]
      exact Reif.eq rfl (by unfold Wi.fits; rw [if_neg (by simp [hm]), if_pos h1])
    | true =>
      obtain ⟨s1, s2, s3, s4, s5, s6, s7⟩ := sized_parts h1
      obtain ⟨c1, c2, c3, c4, c5⟩ := Mo.chk_parts hm
      have go := Gr.ok_of c1
      obtain ⟨_, i0, i1, i2, i3, i4, i5⟩ := go
      obtain ⟨r1, r2, r3, r4⟩ := Gr.row_parts i4
      have hl : m.lat.length = m.g.next.length := by simp only [Mo.lens, Bool.or_eq_false_iff, bne_eq_false_iff_eq] at c2; omega
      have hil : m.g.init.length = w.st.length := by omega
      simp only [sz.down, ↓reduceIte, Nat.reduceLT, TEP]
      refine awp_loop (fun k f h => ∃ i, k + i = w.st.length ∧ f.t 2 = .lp 0 0 ∧ f.t 3 = .lp 1 0 ∧ f.t 6 = vi i ∧ f.d = [] ∧ h = [O.cells [vi m.g.ins, ints m.g.next, ints m.g.init, prs m.g.ands, ints m.g.outs, strs m.ins, strs m.lat, strs m.out], O.cells [vi w.bad, ints w.st, cls w.steps]] ∧ (List.range i).any (fun i => clash (m.g.init.getD i 0) (w.st.getD i 0)) = false) w.st.length ⟨0, by simp, by simp only [sz.down, ↓reduceIte, Nat.reduceEqDiff], by simp only [sz.down, ↓reduceIte, Nat.reduceEqDiff], by simp only [sz.down, ↓reduceIte]; rfl, by simp only [sz.down], rfl, rfl⟩ ?_
      rintro k f h ⟨i, hk, h2, h3, h6, hd, rfl, hno⟩
      refine vc_ok mixed _ _ _ _ ?_
      simp only [sz.down, ↓reduceIte, Nat.reduceEqDiff, Nat.reduceLT, Nat.reduceLeDiff, Nat.reduceAdd, TEP, tis, h3, h6]
      refine vcB.mk (fun hlt => ?_) (fun hlt => ?_)
      · simp only [decide_eq_true_eq, Int.ofNat_lt] at hlt
        have hli : i < m.g.init.length := by omega
        have hg1 : (m.g.init.map vi).getD i .any = vi m.g.init[i] := getI hli _
        have hg2 : (w.st.map vi).getD i .any = vi w.st[i] := getI hlt _
        have ha := r2 _ (List.getElem_mem hli)
        have hb : 0 ≤ w.st[i] ∧ w.st[i] ≤ 2 := by
          have := List.any_eq_false.1 s4 _ (List.getElem_mem hlt)
          simp only [oddB, Bool.or_eq_true, decide_eq_true_eq, not_or] at this
          omega
        have hge : m.g.init.getD i 0 = m.g.init[i] := getD_at (by omega)
        have hge2 : w.st.getD i 0 = w.st[i] := getD_at hlt
        have hext : ∀ b, clash m.g.init[i] w.st[i] = b → (List.range (i + 1)).any (fun i => clash (m.g.init.getD i 0) (w.st.getD i 0)) = b := fun b hb => by
          rw [List.range_succ, List.any_append, hno]
          simp only [List.any_cons, List.any_nil, Bool.or_false, Bool.false_or, hge, hge2, hb]
        have hfin : clash m.g.init[i] w.st[i] = true → Wi.fits m w = 11 := fun hb => by
          unfold Wi.fits
          rw [if_neg (by simp [hm]), if_neg (by simp [h1]), if_pos]
          have := hext _ hb
          rw [List.any_eq_true] at this ⊢
          obtain ⟨x, hx, hy⟩ := this
          exact ⟨x, List.mem_range.2 (by have := List.mem_range.1 hx; omega), hy⟩
        have hw := wrap_succ (show i < maxLen by omega)
        have hcl : clash m.g.init[i] w.st[i] = (decide (m.g.init[i] < 2) && (decide (w.st[i] < 2) && (m.g.init[i] != w.st[i]))) := by
          obtain ⟨a, ea⟩ : ∃ a, a = m.g.init[i] := ⟨_, rfl⟩
          obtain ⟨b, eb⟩ : ∃ b, b = w.st[i] := ⟨_, rfl⟩
          rw [← ea] at ha ⊢
          rw [← eb] at hb ⊢
          have h1 : a = 0 ∨ a = 1 ∨ a = 2 := by omega
          have h2 : b = 0 ∨ b = 1 ∨ b = 2 := by omega
          clear ea eb
          rcases h1 with rfl | rfl | rfl <;> rcases h2 with rfl | rfl | rfl <;> rfl
        have hfls : ∀ b, clash m.g.init[i] w.st[i] = b → b = false → (List.range (i + 1)).any (fun i => clash (m.g.init.getD i 0) (w.st.getD i 0)) = false := fun b h1 h2 => by rw [hext _ h1, h2]
        cases e1 : decide (m.g.init[i] < 2) with
        | false =>
          simp only [sz.down, ↓reduceIte, Nat.reduceEqDiff, Nat.reduceLT, Nat.reduceLeDiff, Nat.reduceAdd, TEP, tis, h2, h3, h6, hg1, hg2, e1, hw]
          refine ⟨by decide +kernel, ?_⟩
          repeat (first | refine ⟨⟨by omega, by omega⟩, ?_⟩ | (refine ⟨.bool false, ?_⟩; simp only [sz.down, ↓reduceIte, Nat.reduceEqDiff, Nat.reduceLT, Nat.reduceLeDiff, Nat.reduceAdd, Nat.reduceSub, Int.reduceToNat, Nat.reduceDiv, Int.reduceLT, Int.reduceLE, Int.reduceNeg, Int.reduceBEq, Int.reduceBNe, Int.reduceAdd, Int.reduceSub, Nat.reduceBEq, reduceCtorEq, Nat.reduceMul, sp.down, pvNilI, Tryz.results36, h2, h3, h6, hd, hg1, hg2, e1, hw]))
          exact .inl ⟨k - 1, by omega, i + 1, by omega, h2, h3, rfl, hd, rfl, hfls _ hcl (by rw [e1]; rfl)⟩
        | true =>
        cases e2 : decide (w.st[i] < 2) with
        | false =>
          simp only [sz.down, ↓reduceIte, Nat.reduceEqDiff, Nat.reduceLT, Nat.reduceLeDiff, Nat.reduceAdd, reduceCtorEq, TEP, tis, h2, h3, h6, hg1, hg2, e1, e2, hw]
          refine ⟨by decide +kernel, ?_⟩
          repeat (first | refine ⟨⟨by omega, by omega⟩, ?_⟩ | (refine ⟨.bool false, ?_⟩; simp only [sz.down, ↓reduceIte, Nat.reduceEqDiff, Nat.reduceLT, Nat.reduceLeDiff, Nat.reduceAdd, Nat.reduceSub, Int.reduceToNat, Nat.reduceDiv, Int.reduceLT, Int.reduceLE, Int.reduceNeg, Int.reduceBEq, Int.reduceBNe, Int.reduceAdd, Int.reduceSub, Nat.reduceBEq, reduceCtorEq, Nat.reduceMul, sp.down, pvNilI, Tryz.results36, h2, h3, h6, hd, hg1, hg2, e1, e2, hw]))
          exact .inl ⟨k - 1, by omega, i + 1, by omega, h2, h3, rfl, hd, rfl, hfls _ hcl (by rw [e1, e2]; rfl)⟩
        | true =>
        cases e3 : m.g.init[i] != w.st[i] with
        | false =>
          simp only [sz.down, ↓reduceIte, Nat.reduceEqDiff, Nat.reduceLT, Nat.reduceLeDiff, Nat.reduceAdd, reduceCtorEq, TEP, tis, h2, h3, h6, hg1, hg2, e1, e2, e3, hw]
          refine ⟨by decide +kernel, ?_⟩
          repeat (first | refine ⟨⟨by omega, by omega⟩, ?_⟩ | (refine ⟨.bool false, ?_⟩; simp only [sz.down, ↓reduceIte, Nat.reduceEqDiff, Nat.reduceLT, Nat.reduceLeDiff, Nat.reduceAdd, Nat.reduceSub, Int.reduceToNat, Nat.reduceDiv, Int.reduceLT, Int.reduceLE, Int.reduceNeg, Int.reduceBEq, Int.reduceBNe, Int.reduceAdd, Int.reduceSub, Nat.reduceBEq, reduceCtorEq, Nat.reduceMul, sp.down, pvNilI, Tryz.results36, h2, h3, h6, hd, hg1, hg2, e1, e2, e3, hw]))
          exact .inl ⟨k - 1, by omega, i + 1, by omega, h2, h3, rfl, hd, rfl, hfls _ hcl (by rw [e1, e2, e3]; rfl)⟩
        | true =>
          simp only [sz.down, ↓reduceIte, Nat.reduceEqDiff, Nat.reduceLT, Nat.reduceLeDiff, Nat.reduceAdd, reduceCtorEq, TEP, tis, h2, h3, h6, hd, hg1, hg2, e1, e2, e3]
          refine ⟨by decide +kernel, ?_⟩
          repeat (refine ⟨⟨by omega, by omega⟩, ?_⟩)
          exact Reif.eq rfl (by rw [hfin (by rw [hcl, e1, e2, e3]; rfl)])
      · simp only [decide_eq_false_iff_not, Int.ofNat_lt] at hlt
        simp only [sz.down, ↓reduceIte, Nat.reduceLT, TEP, hd]
        have hi : i = w.st.length := by omega
        refine Reif.eq rfl ?_
        unfold Wi.fits
        rw [if_neg (by simp [hm]), if_neg (by simp [h1]), ← hi, hno]
        rfl

theorem ev_rplace (c : List S) (s : S) : Ev TE 111 [strs c, .str s] (vi (idx c (· == s))) := by
  refine Ev.bnd fun hb => ?_
  have hlen := strs_len hb
  refine Ev.of_awp Tryz.func111 rfl (by simp [nts]) (vc_ok mixed _ _ _ _ ?_)
  simp only [sz.down, Nat.reduceLT, Int.reduceNeg, TEP, nts, Tryz.results111]
  refine awp_loop (fun m f h => ∃ i, m + i = c.length ∧ f.t 0 = strs c ∧ f.t 1 = .str s ∧ f.t 5 = .int .i64 (i : Int) ∧ f.d = [] ∧ ∀ x ∈ c.take i, (x == s) = false) c.length ⟨0, by simp, rfl, rfl, rfl, rfl, by simp⟩ ?_
  rintro m f h ⟨i, hm, h0, h1, h5, hd, hall⟩
  refine vc_ok mixed _ _ _ _ ?_
  simp only [sz.down, ↓reduceIte, Nat.reduceEqDiff, Nat.reduceLT, Int.reduceNeg, reduceCtorEq, TEP, tis, h0, h5]
  refine vcB.mk (fun hc => ?_) (fun hc => ?_)
  · simp only [decide_eq_true_eq, Int.ofNat_lt] at hc
    simp only [sz.down, ↓reduceIte, Nat.reduceEqDiff, Nat.reduceLT, Int.reduceNeg, reduceCtorEq, TEP, tis, h0, h1, h5, getS hc]
    refine ⟨⟨by omega, by omega⟩, ?_⟩
    cases hv : c[i] == s with
    | true =>
      simp only [sz.down, ↓reduceIte, Nat.reduceEqDiff, Nat.reduceLT, Int.reduceNeg, TEP, h5, hd]
      rw [idx_some hc hall hv]
      exact Reif.dat rfl
    | false =>
      simp only [sz.down, ↓reduceIte, Nat.reduceEqDiff, Nat.reduceLT, Int.reduceNeg, TEP, h5, wrap_succ (show i < maxLen by omega)]
      exact .inl ⟨m - 1, by omega, i + 1, by omega, h0, h1, rfl, hd, mem_take_succ hc hall hv⟩
  · simp only [decide_eq_false_iff_not, Int.ofNat_lt] at hc
    simp only [sz.down, ↓reduceIte, Nat.reduceLT, Int.reduceNeg, TEP, hd]
    rw [List.take_of_length_le (by omega)] at hall
    rw [idx_none hall]
    exact Reif.dat rfl

def alikeR (a b : List S) : Bool := !a.any (fun s => decide (idx b (· == s) < 0)) && ((a.length : Int) == b.length)
theorem ev_ralike (a b : List S) : Ev TE 110 [strs a, strs b] (.bool (alikeR a b)) := by
  refine Ev.bnd fun hb => ?_
  have hlen := strs_len hb
  unfold alikeR
  refine Ev.of_awp Tryz.func110 rfl (by simp [nts]) (vc_ok mixed _ _ _ _ ?_)
  simp only [sz.down, Nat.reduceLT, TEP, nts, Tryz.results110]
  refine awp_loop (fun m f h => ∃ i, m + i = a.length ∧ f.t 0 = strs a ∧ f.t 1 = strs b ∧ f.t 5 = .int .i64 (i : Int) ∧ f.d = [] ∧ ∀ x ∈ a.take i, decide (idx b (· == x) < 0) = false) a.length ⟨0, by simp, rfl, rfl, rfl, rfl, by simp⟩ ?_
  rintro m f h ⟨i, hm, h0, h1, h5, hd, hall⟩
  refine vc_ok mixed _ _ _ _ ?_
  simp only [sz.down, ↓reduceIte, Nat.reduceEqDiff, Nat.reduceLT, reduceCtorEq, TEP, tis, h0, h5]
  refine vcB.mk (fun hc => ?_) (fun hc => ?_)
  · simp only [decide_eq_true_eq, Int.ofNat_lt] at hc
    simp only [sz.down, ↓reduceIte, Nat.reduceEqDiff, Nat.reduceLT, reduceCtorEq, TEP, tis, ens, h0, h1, h5, getS hc]
    refine ⟨⟨by omega, by omega⟩, ACalls.ev (ev_rplace b a[i]) rfl ?_⟩
    obtain ⟨p, hp⟩ : ∃ p, p = idx b (· == a[i]) := ⟨_, rfl⟩
    rw [← hp]
    cases hv : decide (p < 0) with
    | true =>
      simp only [sz.down, ↓reduceIte, Nat.reduceLT, TEP, hd, hv]
      refine Reif.eq rfl ?_
      rw [any_of_at (p := fun s => decide (idx b (· == s) < 0)) hc (by rw [← hp]; exact hv)]; rfl
    | false =>
      simp only [sz.down, ↓reduceIte, Nat.reduceEqDiff, Nat.reduceLT, TEP, h5, hv, wrap_succ (show i < maxLen by omega)]
      exact .inl ⟨m - 1, by omega, i + 1, by omega, h0, h1, rfl, hd, mem_take_succ hc hall (by rw [← hp]; exact hv)⟩
  · simp only [decide_eq_false_iff_not, Int.ofNat_lt] at hc
    simp only [sz.down, ↓reduceIte, Nat.reduceEqDiff, Nat.reduceLT, reduceCtorEq, TEP, tis, h0, h1, hd]
    refine Reif.eq rfl ?_
    rw [any_none hc hall]; rfl

theorem ev_rmoved (fr to : List S) (l : Cl) (hn : ∀ s ∈ to, s ∈ fr) (hl : l.length = fr.length) (ht : to.length ≤ 1000000) : Ev TE 112 [strs fr, strs to, ints l] (ints (moveV fr to l)) := by
  have hM : maxLen = 9223372036854775807 := rfl
  refine Ev.bnd fun hb => ?_
  refine Ev.of_awp Tryz.func112 rfl (by simp [nts]) (vc_ok mixed _ _ _ _ ?_)
  simp only [sz.down, Nat.reduceLT, TEP, nts, Tryz.results112]
  refine awp_bareAt 7 1 (by simp only [sz.down, ↓reduceIte, Nat.reduceEqDiff]) ?_
  refine awp_loop (fun m f h => ∃ (i : Nat) (cs : List V), m + i = to.length ∧ f.t 0 = strs fr ∧ f.t 1 = strs to ∧ f.t 2 = ints l ∧ f.t 7 = .ls 0 1 0 i i ∧ f.t 8 = vi i ∧ f.d = [] ∧ cs = (moveV fr (to.take i) l).map vi ∧ h = [.cells cs]) to.length
    ⟨0, [], by simp, by simp only [sz.down, ↓reduceIte, reduceCtorEq], by simp only [sz.down, ↓reduceIte, Nat.reduceEqDiff], by simp only [sz.down, ↓reduceIte, Nat.reduceEqDiff], by simp only [sz.down, ↓reduceIte], by simp only [sz.down, ↓reduceIte, Nat.reduceEqDiff]; rfl, by simp only [sz.down], rfl, rfl⟩ ?_
  rintro m f h ⟨i, cs, hm, h0, h1, h2, h7, h8, hd, hcs, rfl⟩
  have hcl : i ≤ to.length → cs.length = i := fun hi => by rw [hcs, List.length_map, moveV, List.length_map, List.length_take]; omega
  have hdc : ∀ p, V.drops p cs = cs := fun p => by rw [hcs]; exact drops_vi _
  refine vc_ok mixed _ _ _ _ ?_
  simp only [sz.down, ↓reduceIte, Nat.reduceEqDiff, Nat.reduceLT, TEP, tis, h1, h8]
  refine vcB.mk (fun hc => ?_) (fun hc => ?_)
  · simp only [decide_eq_true_eq, Int.ofNat_lt] at hc
    obtain ⟨j, hj, hjl, hjs⟩ := idx_mem (hn to[i] (List.getElem_mem hc))
    have hjl2 : j < l.length := by omega
    have hcl' := hcl (by omega)
    simp only [sz.down, ↓reduceIte, Nat.reduceEqDiff, Nat.reduceLT, reduceCtorEq, TEP, tis, ens, h0, h1, h2, h7, h8, getS hc]
    refine ⟨⟨by omega, by omega⟩, ACalls.ev (ev_rplace fr to[i]) rfl ?_⟩
    rw [hj]
    simp only [sz.down, ↓reduceIte, Nat.reduceEqDiff, Nat.reduceLT, reduceCtorEq, Nat.reduceMul, TEP, tis, h8, hd, getI hjl2, hdc, wrap_succ (show i < maxLen by omega)]
    refine ⟨⟨by omega, by omega⟩, ⟨rfl, by decide⟩, ⟨by omega, by omega, by omega⟩, .inl ⟨m - 1, by omega, i + 1, _, by omega, by simp only [sz.down, ↓reduceIte, reduceCtorEq, h0], by simp only [sz.down, ↓reduceIte, Nat.reduceEqDiff, h1], by simp only [sz.down, ↓reduceIte, Nat.reduceEqDiff, h2], by simp only [sz.down, ↓reduceIte, Nat.reduceEqDiff], by simp only [sz.down, ↓reduceIte], by simp only [sz.down, hd], ?_, rfl⟩⟩
    rw [hcs]
    unfold moveV
    rw [show to.take (i + 1) = to.take i ++ [to[i]] by rw [List.take_add_one, List.getElem?_eq_getElem hc]; rfl, List.map_append, List.map_append]
    simp [hj, hjl2]
  · simp only [decide_eq_false_iff_not, Int.ofNat_lt] at hc
    simp only [sz.down, ↓reduceIte, Nat.reduceEqDiff, Nat.reduceLT, TEP, h7, hd]
    rw [List.take_of_length_le (by omega)] at hcs
    have hi : i = to.length := by omega
    exact reif_ints (by rw [hcs]; rfl) (by rw [hi, moveV, List.length_map])

theorem ev_rsame22 (a b : Wi) (hl : a.steps.length ≤ 1000000) : Ev TE 44 [a.v, b.v] (.bool (a.same b)) := by
  have hM : maxLen = 9223372036854775807 := rfl
  unfold Wi.v Wi.same
  refine Ev.of_awp Tryz.func44 rfl (by simp [nts]) (vc_ok mixed _ _ _ _ ?_)
  cases h1 : (a.bad == b.bad) with
  | false =>
    have h1' : (a.bad != b.bad) = true := by unfold bne; rw [h1]; rfl
    simp only [sz.down, ↓reduceIte, Nat.reduceEqDiff, Nat.reduceLT, Nat.reduceLeDiff, Nat.reduceAdd, reduceCtorEq, TEP, tis, nts, Tryz.results44, h1']
    repeat (refine ⟨.bool true, ?_⟩; simp only [sz.down, ↓reduceIte, Nat.reduceLT, reduceCtorEq, TEP])
    exact Reif.dat rfl
  | true =>
  have h1' : (a.bad != b.bad) = false := by unfold bne; rw [h1]; rfl
  simp only [sz.down, ↓reduceIte, Nat.reduceEqDiff, Nat.reduceLT, Nat.reduceLeDiff, Nat.reduceAdd, TEP, tis, ens, nts, Tryz.results44, h1']
  refine ACalls.ev (ev_ints _ _) (by simp only [V.dats, datI, Bool.and_self]) ?_
  cases h2 : (a.st == b.st) with
  | false =>
    simp only [sz.down, ↓reduceIte, Nat.reduceEqDiff, Nat.reduceLT, Nat.reduceAdd, reduceCtorEq, TEP, tis]
    repeat (refine ⟨.bool true, ?_⟩; simp only [sz.down, ↓reduceIte, Nat.reduceEqDiff, Nat.reduceLT, Nat.reduceLeDiff, Nat.reduceAdd, Nat.reduceSub, Int.reduceToNat, Nat.reduceDiv, Int.reduceLT, Int.reduceLE, Int.reduceNeg, Int.reduceBEq, Int.reduceBNe, Int.reduceAdd, Int.reduceSub, Nat.reduceBEq, reduceCtorEq, Nat.reduceMul, sp.down, pvNilI, Tryz.results44, h1'])
    exact Reif.dat rfl
  | true =>
  cases h3 : (a.steps.length : Int) != (b.steps.length : Int) with
  | true =>
    simp only [sz.down, ↓reduceIte, Nat.reduceEqDiff, Nat.reduceLT, Nat.reduceAdd, TEP, tis, h3]
    refine Reif.eq rfl ?_
    have : ¬ a.steps = b.steps := fun h => by rw [h] at h3; simp at h3
    simp [this]
  | false =>
    have hll : a.steps.length = b.steps.length := by simpa [Int.natCast_inj] using h3
    simp only [sz.down, ↓reduceIte, Nat.reduceEqDiff, Nat.reduceLT, Nat.reduceAdd, TEP, tis, h3]
    refine awp_loop (fun k f h => ∃ i, k + i = a.steps.length ∧ f.t 2 = .lp 0 0 ∧ f.t 3 = .lp 1 0 ∧ f.t 5 = vi i ∧ f.d = [] ∧ h = [O.cells [vi a.bad, ints a.st, cls a.steps], O.cells [vi b.bad, ints b.st, cls b.steps]] ∧ a.steps.take i = b.steps.take i) a.steps.length ⟨0, by simp, by simp only [sz.down, ↓reduceIte, Nat.reduceEqDiff], by simp only [sz.down, ↓reduceIte, Nat.reduceEqDiff], by simp only [sz.down, ↓reduceIte]; rfl, by simp only [sz.down], rfl, by simp⟩ ?_
    rintro k f h ⟨i, hk, q2, q3, q5, hd, rfl, hall⟩
    refine vc_ok mixed _ _ _ _ ?_
    simp only [sz.down, ↓reduceIte, Nat.reduceEqDiff, Nat.reduceLT, Nat.reduceAdd, TEP, tis, q2, q5]
    refine vcB.mk (fun hc => ?_) (fun hc => ?_)
    · simp only [decide_eq_true_eq, Int.ofNat_lt] at hc
      have hc2 : i < b.steps.length := by omega
      have g1 := getC hc V.any
      have g2 := getC hc2 V.any
      have hw := wrap_succ (show i < maxLen by omega)
      simp only [sz.down, ↓reduceIte, Nat.reduceEqDiff, Nat.reduceLT, Nat.reduceAdd, TEP, tis, q2, q3, q5, g1, g2]
      refine ⟨by decide +kernel, ⟨by omega, by omega⟩, ⟨by omega, by omega⟩, vcEv.mk (ev_ints _ _) rfl (by simp only [V.dats, datI, Bool.and_self]) ?_⟩
      by_cases he : a.steps[i] = b.steps[i]
      · have eb : (a.steps[i] == b.steps[i]) = true := by simpa using he
        simp only [sz.down, ↓reduceIte, Nat.reduceEqDiff, Nat.reduceLT, TEP, q5, eb, hw]
        exact .inl ⟨k - 1, by omega, i + 1, by omega, q2, q3, rfl, hd, rfl, take_eq hall hc hc2 he⟩
      · have eb : (a.steps[i] == b.steps[i]) = false := by simpa using he
        simp only [sz.down, ↓reduceIte, Nat.reduceLT, TEP, hd, eb]
        refine Reif.eq rfl ?_
        have : ¬ a.steps = b.steps := fun h => by simp only [h] at he; exact he trivial
        simp [this]
    · simp only [decide_eq_false_iff_not, Int.ofNat_lt] at hc
      simp only [sz.down, ↓reduceIte, Nat.reduceLT, TEP, hd]
      refine Reif.eq rfl ?_
      rw [List.take_of_length_le (by omega), List.take_of_length_le (by omega)] at hall
      simp [hall]

theorem rwB_len {l : List (List Bool)} {r : List V} (hb : V.bnds (rwB l :: r)) : l.length ≤ maxLen := by
  simp only [V.bnds, V.bnd] at hb
  have := hb.1
  simpa using this.1
theorem ev_rrows8 (a b : List (List Bool)) (hl : a.length ≤ 1000000) : Ev TE 47 [rwB a, rwB b] (.bool (a == b)) := by
  have hM : maxLen = 9223372036854775807 := rfl
  have dB : ∀ l : List Bool, (bools l).dat = true := fun l => by simp only [V.dat]
  refine Ev.of_awp Tryz.func47 rfl (by simp [nts]) (vc_ok mixed _ _ _ _ ?_)
  simp only [sz.down, ↓reduceIte, Nat.reduceEqDiff, Nat.reduceLT, reduceCtorEq, TEP, tis, nts, Tryz.results47]
  refine vcB.mk (fun hc => ?_) (fun hc => ?_)
  · simp only [sz.down, ↓reduceIte, Nat.reduceLT, TEP]
    refine Reif.eq rfl ?_
    simp only [bne_iff_ne, ne_eq, Int.natCast_inj] at hc
    have : ¬ a = b := fun h => hc (by rw [h])
    simp [this]
  · have hll : a.length = b.length := by simpa [Int.natCast_inj] using hc
    simp only [sz.down, Nat.reduceLT, TEP]
    refine awp_loop (fun m f h => ∃ i, m + i = a.length ∧ f.t 0 = rwB a ∧ f.t 1 = rwB b ∧ f.t 5 = .int .i64 (i : Int) ∧ f.d = [] ∧ a.take i = b.take i) a.length ⟨0, by simp, rfl, rfl, rfl, rfl, by simp⟩ ?_
    rintro m f h ⟨i, hm, h0, h1, h5, hd, hall⟩
    refine vc_ok mixed _ _ _ _ ?_
    simp only [sz.down, ↓reduceIte, Nat.reduceEqDiff, Nat.reduceLT, reduceCtorEq, TEP, tis, h0, h5]
    refine vcB.mk (fun hc => ?_) (fun hc => ?_)
    · simp only [decide_eq_true_eq, Int.ofNat_lt] at hc
      have hc2 : i < b.length := by omega
      have g1 := getRw hc V.any
      have g2 := getRw hc2 V.any
      simp only [sz.down, ↓reduceIte, Nat.reduceEqDiff, Nat.reduceLT, reduceCtorEq, TEP, tis, h0, h1, h5, g1, g2]
      refine ⟨by decide +kernel, ⟨by omega, by omega⟩, ⟨by omega, by omega⟩, vcEv.mk (ev_bools8 a[i] b[i]) rfl (by simp only [V.dats, dB, Bool.and_self]) ?_⟩
      by_cases he : a[i] = b[i]
      · have eb : (a[i] == b[i]) = true := by simpa using he
        simp only [sz.down, ↓reduceIte, Nat.reduceEqDiff, Nat.reduceLT, TEP, eb, h5, wrap_succ (show i < maxLen by omega)]
        exact .inl ⟨m - 1, by omega, i + 1, by omega, h0, h1, rfl, hd, take_eq hall hc hc2 he⟩
      · have eb : (a[i] == b[i]) = false := by simpa using he
        simp only [sz.down, ↓reduceIte, Nat.reduceLT, TEP, eb, hd]
        refine Reif.eq rfl ?_
        have : ¬ a = b := fun h => by subst h; exact he rfl
        simp [this]
    · simp only [decide_eq_false_iff_not, Int.ofNat_lt] at hc
      simp only [sz.down, ↓reduceIte, Nat.reduceLT, TEP, hd]
      refine Reif.eq rfl ?_
      rw [List.take_of_length_le (by omega), List.take_of_length_le (by omega)] at hall
      simp [hall]

end Go.Proofs.YtboolnpmlmgpkaaGreatDoor

set_option linter.unusedVariables false
set_option maxRecDepth 20000
set_option linter.unusedSimpArgs false
set_option linter.unnecessarySimpa false
namespace Go.Proofs.YtboolnpmlmgpkaaGreatDoor
open Go Go.Proofs Go.Abs

theorem ev_rlit (v : List Bool) (a : Int) (h0 : 0 ≤ a) (h1 : a / 2 < v.length) (h2 : a ≤ 1000000000) : Ev TE 178 [bools v, vi a] (.bool (lv v a)) := by
  obtain ⟨k, hk⟩ : ∃ k : Nat, a / 2 = k := ⟨(a / 2).toNat, by omega⟩
  have hkl : k < v.length := by omega
  have hg : (v.map V.bool).getD k .any = .bool v[k] := getB hkl _
  have q1 : IntKind.i64.wrap (a.tdiv 2) = k := by rw [Int.tdiv_eq_ediv_of_nonneg h0, wrap64 (by omega) (by omega)]; exact hk
  have q2 : a.tmod 2 = a % 2 := Int.tmod_eq_emod_of_nonneg h0
  have n2 : ((2 : Int) ≠ 0) := by decide
  refine Ev.of_awp Tryz.func178 rfl (by simp [nts]) (vc_ok mixed _ _ _ _ ?_)
  simp only [sz.down, ↓reduceIte, Nat.reduceEqDiff, Nat.reduceLT, reduceCtorEq, TEP, tis, nts, Tryz.results178, q1, q2, hg]
  refine ⟨n2, ⟨by omega, by omega⟩, n2, ?_⟩
  refine Reif.eq rfl ?_
  unfold lv
  rw [hk, Int.toNat_natCast, getD_at hkl]
  rfl

theorem Reif.ex {e : E} {h : H} {k : Nat} {es : List V} (hd : V.dat (.is true k es) = true) : Reif e h (.is true k es) (.is false k es) := fun ok pl w x hs hv => VLe.inexact _ _ (Reif.dat hd ok pl w x hs hv)
set_option maxHeartbeats 4000000 in
theorem ev_rvals (g : Gr) (st ins : List Bool) (bn : g.next.length ≤ 4000) (bi : g.init.length ≤ 4000) (ba : g.ands.length ≤ 4000) (bo : g.outs.length ≤ 4000) : Ev TE 177 [g.v, bools st, bools ins] (.tup [bools (g.valV st ins), vi (g.valE st ins)]) := by
  have hM : maxLen = 9223372036854775807 := rfl
  have hgc := ev_r9check g bn bi ba bo
  have dg : V.dats [.agg [vi g.ins, ints g.next, ints g.init, prs g.ands, ints g.outs]] = true := by simp only [V.dats, V.dat, Bool.and_self]
  unfold Gr.v at hgc ⊢
  refine Ev.of_awp Tryz.func177 rfl (by simp [nts]) ?_
  
  refine awp_seq (vc_ok mixed _ _ _ _ ?_)
  simp only [sz.down, Nat.reduceLT, TEP, nts, Tryz.results177]
  refine awp_seq (vc_ok mixed _ _ _ _ ?_)
  simp only [sz.down, ↓reduceIte, Nat.reduceEqDiff, Nat.reduceLT, Nat.reduceAdd, reduceCtorEq, TEP, tis, ens]
  refine ACalls.ev hgc dg ?_
  simp only [sz.down, ↓reduceIte, Nat.reduceLT, TEP]
  refine awp_seq (vc_ok mixed _ _ _ _ ?_)
  simp only [sz.down, ↓reduceIte, Nat.reduceLT, TEP]
  refine vcB.mk (fun hc => ?_) (fun hc => ?_)
  · simp only [sz.down, ↓reduceIte, Nat.reduceEqDiff, Nat.reduceLT, TEP]
    have h1 : g.valE st ins = g.chk := by unfold Gr.valE; rw [if_pos (by simpa using hc)]
    have h2 : g.valV st ins = [] := by unfold Gr.valV; rw [if_neg (by rw [h1]; simpa using hc)]
    rw [h1, h2]
    exact Reif.tup (Reifs.cons Reif.nils (Reifs.dat rfl))
  have hg : g.chk = 0 := by simpa using hc
  obtain ⟨_, i0, i1, i2, i3, i4, i5⟩ := Gr.ok_of hg
  have fin : ((st.length : Int) != (g.next.length : Int)) || ((ins.length : Int) != g.ins) → Reif TE [.cells [vi g.ins, ints g.next, ints g.init, prs g.ands, ints g.outs]] (.tup [.nils, vi 11]) (.tup [bools (g.valV st ins), vi (g.valE st ins)]) := fun h => by
    have h1 : g.valE st ins = 11 := by unfold Gr.valE; rw [if_neg (by simp [hg]), if_pos h]
    have h2 : g.valV st ins = [] := by unfold Gr.valV; rw [if_neg (by rw [h1]; decide)]
    rw [h1, h2]
    exact Reif.tup (Reifs.cons Reif.nils (Reifs.dat rfl))
  cases e1 : (st.length : Int) != (g.next.length : Int) with
  | true =>
    simp only [sz.down]
    refine awp_seq (vc_ok mixed _ _ _ _ ?_)
    simp only [sz.down, ↓reduceIte, Nat.reduceEqDiff, Nat.reduceLT, Nat.reduceLeDiff, Nat.reduceAdd, reduceCtorEq, TEP, tis, e1]
    repeat (refine ⟨.bool true, ?_⟩; simp only [sz.down, ↓reduceIte, Nat.reduceEqDiff, Nat.reduceLT, Nat.reduceLeDiff, Nat.reduceAdd, Nat.reduceSub, Int.reduceToNat, Nat.reduceDiv, Int.reduceLT, Int.reduceLE, Int.reduceNeg, Int.reduceBEq, Int.reduceBNe, Int.reduceAdd, Int.reduceSub, Nat.reduceBEq, reduceCtorEq, Nat.reduceMul, sp.down, pvNilI, Tryz.results177, e1])
    exact fin (by simp [e1])
  | false =>
  cases e2 : (ins.length : Int) != g.ins with
  | true =>
    simp only [sz.down]
    refine awp_seq (vc_ok mixed _ _ _ _ ?_)
    simp only [sz.down, ↓reduceIte, Nat.reduceEqDiff, Nat.reduceLT, Nat.reduceLeDiff, Nat.reduceAdd, TEP, tis, e1, e2]
    exact fin (by simp [e1, e2])
  | false =>
  simp only [bne_eq_false_iff_eq] at e1 e2
  have hE : g.valE st ins = 0 := by unfold Gr.valE; rw [if_neg (by simp [hg]), if_neg (by simp; omega)]
  have hV : g.valV st ins = valsN g st ins g.ands.length := by unfold Gr.valV Gr.vals; rw [if_pos hE]
  have hfl : valsN g st ins 0 = false :: (ins ++ st) := by simp [valsN]
  rw [hE, hV]
  simp only [sz.down]
  refine awp_seq (vc_ok mixed _ _ _ _ ?_)
  simp only [sz.down, ↓reduceIte, Nat.reduceEqDiff, Nat.reduceLT, Nat.reduceLeDiff, Nat.reduceAdd, TEP, tis, e1, e2, bne_self_eq_false]
  refine awp_seq (vc_ok mixed _ _ _ _ ?_)
  simp only [sz.down, ↓reduceIte, Nat.reduceLT, reduceCtorEq, Nat.reduceMul, TEP, tis]
  have hq : ti TE.P 59 = some ⟨.slice 4, 1, 24, .nils⟩ := by simp only [sz.down, TEP, tis]
  have hqe : ti TE.P 4 = some ⟨.bool, 1, 1, .bool false⟩ := by simp only [sz.down, TEP, tis]
  obtain ⟨G, hG⟩ : ∃ G : O, G = .cells [vi g.ins, ints g.next, ints g.init, prs g.ands, ints g.outs] := ⟨_, rfl⟩
  rw [← hG]
  refine ⟨⟨rfl, by decide⟩, ?_⟩
  refine awp_seq (awp_mono (Q := fun xe f h => xe = .normal ∧ f.t 1 = bools st ∧ f.t 3 = .lp 0 0 ∧ f.d = [] ∧ ((ins = [] ∧ f.t 9 = .is true 1 [V.bool false] ∧ h = [G]) ∨ (f.t 9 = .ls 1 1 0 (1 + ins.length) (1 + ins.length) ∧ h = [G, .cells (V.bool false :: ins.map V.bool)]))) ?_ ?_)
  · rintro xe f h ⟨rfl, h1, h3, hd, hh⟩
    show awp _ _ _ _ _ _ _
    refine awp_seq (awp_mono (Q := fun xe f h => xe = .normal ∧ f.t 3 = .lp 0 0 ∧ f.d = [] ∧ ((valsN g st ins 0 = [false] ∧ f.t 9 = .is true 1 [V.bool false] ∧ h = [G]) ∨ (f.t 9 = .ls 1 1 0 (valsN g st ins 0).length (valsN g st ins 0).length ∧ h = [G, .cells ((valsN g st ins 0).map V.bool)]))) ?_ ?_)
    · rintro xe f h ⟨rfl, h3, hd, hh⟩
      show awp _ _ _ _ _ _ _
      refine vc_ok mixed _ _ _ _ ?_
      simp only [sz.down, Nat.reduceLT, TEP]
      refine awp_loop (fun m f h => ∃ i, m + i = g.ands.length ∧ f.t 3 = .lp 0 0 ∧ f.t 10 = vi i ∧ f.d = [] ∧ ((i = 0 ∧ valsN g st ins 0 = [false] ∧ f.t 9 = .is true 1 [V.bool false] ∧ h = [G]) ∨ (f.t 9 = .ls 1 1 0 (valsN g st ins i).length (valsN g st ins i).length ∧ h = [G, .cells ((valsN g st ins i).map V.bool)]))) g.ands.length ⟨0, by simp, by simp only [sz.down, ↓reduceIte, Nat.reduceEqDiff, h3], by simp only [sz.down, ↓reduceIte]; rfl, by simp only [sz.down, hd], ?_⟩ ?_
      · rcases hh with ⟨q1, q2, q3⟩ | ⟨q2, q3⟩
        · exact .inl ⟨rfl, q1, by simp only [sz.down, ↓reduceIte, Nat.reduceEqDiff, q2], q3⟩
        · exact .inr ⟨by simp only [sz.down, ↓reduceIte, Nat.reduceEqDiff, q2], q3⟩
      rintro m f h ⟨i, hm, h3, h10, hd, hh⟩
      have hgp := fun hlt => getPr (l := g.ands) (i := i) hlt V.any
      have hln := fun hi => valsN_len (g := g) (st := st) (ins := ins) (i := i) hi
      have hw := fun hi => wrap_succ (show i < maxLen from hi)
      have wf : g.first = 1 + g.ins + g.next.length := rfl
      rcases hh with ⟨rfl, q1, h9, rfl⟩ | ⟨h9, rfl⟩
      · subst hG
        refine vc_ok mixed _ _ _ _ ?_
        simp only [sz.down, ↓reduceIte, Nat.reduceEqDiff, Nat.reduceLT, Nat.reduceLeDiff, Nat.reduceAdd, TEP, tis, h3, h10]
        refine vcB.mk (fun hlt => ?_) (fun hlt => ?_)
        · have hlt : 0 < g.ands.length := by simpa using hlt
          have hgp := hgp hlt
          have hln := hln (by omega)
          have hw := hw (by omega)
          obtain ⟨o1, o2, o3, o4⟩ := oddAs_at i5 hlt
          have key : ∀ b, (lv (valsN g st ins 0) g.ands[0].1 && lv (valsN g st ins 0) g.ands[0].2) = b → valsN g st ins (0 + 1) = valsN g st ins 0 ++ [b] := fun b hb => by rw [valsN_succ hlt, hb]
          have l1 := (ev_rlit (valsN g st ins 0) g.ands[0].1 o1 (by omega) (by omega)).les (VLes.cons (VLe.inexact (x := true)) (VLes.refl _))
          have l2 := (ev_rlit (valsN g st ins 0) g.ands[0].2 o2 (by omega) (by omega)).les (VLes.cons (VLe.inexact (x := true)) (VLes.refl _))
          rw [q1] at l1 l2 key
          have hgp : (List.map prV g.ands).getD 0 V.any = prV g.ands[0] := hgp
          simp only [sz.down, ↓reduceIte, Nat.reduceEqDiff, Nat.reduceLT, Nat.reduceLeDiff, Nat.reduceAdd, Int.reduceLE, Nat.reduceMul, TEP, tis, ens, h3, h10, h9, hgp]
          refine ⟨⟨by decide, by omega⟩, by decide, ACalls.ev l1 rfl ?_⟩
          cases hv1 : lv [false] g.ands[0].1 with
          | true =>
            simp only [sz.down, ↓reduceIte, Nat.reduceEqDiff, Nat.reduceLT, Nat.reduceLeDiff, Nat.reduceAdd, Int.reduceToNat, Int.reduceLE, Nat.reduceMul, TEP, tis, ens, h3, h10, h9, hgp]
            refine ⟨⟨by decide, by omega⟩, by decide, ACalls.ev l2 rfl ?_⟩
            simp only [sz.down, ↓reduceIte, Nat.reduceEqDiff, Nat.reduceLT, Nat.reduceLeDiff, Nat.reduceAdd, reduceCtorEq, Nat.reduceMul, TEP, tis, h10]
            refine ⟨⟨rfl, by decide⟩, by omega, .inl ⟨m - 1, by omega, 0 + 1, by omega, by simp only [sz.down, ↓reduceIte, Nat.reduceEqDiff, h3], by simp only [sz.down, ↓reduceIte]; rfl, by simp only [sz.down, hd], .inr ⟨?_, ?_⟩⟩⟩
            · rw [key _ rfl, hv1]; simp only [sz.down, ↓reduceIte, Nat.reduceEqDiff, Nat.reduceAdd]
            · rw [key _ rfl, hv1]; rfl
          | false =>
            simp only [sz.down, ↓reduceIte, Nat.reduceEqDiff, Nat.reduceLT, Nat.reduceLeDiff, Nat.reduceAdd, Int.reduceToNat, Int.reduceLE, reduceCtorEq, Nat.reduceMul, TEP, tis, h3, h10, h9, hgp]
            repeat (refine ⟨.bool false, ?_⟩; simp only [sz.down, ↓reduceIte, Nat.reduceLT, Nat.reduceLeDiff, Nat.reduceAdd, Nat.reduceMul])
            refine ⟨⟨rfl, by decide⟩, by omega, .inl ⟨m - 1, by omega, 0 + 1, by omega, by simp only [sz.down, ↓reduceIte, Nat.reduceEqDiff, h3], by simp only [sz.down, ↓reduceIte]; rfl, by simp only [sz.down, hd], .inr ⟨?_, ?_⟩⟩⟩
            · rw [key _ rfl, hv1]; simp only [sz.down, ↓reduceIte, Nat.reduceEqDiff, Nat.reduceAdd]
            · rw [key _ rfl, hv1]; rfl
        · have hlt : g.ands.length = 0 := by simpa using hlt
          simp only [sz.down, ↓reduceIte, Nat.reduceEqDiff, Nat.reduceLT, TEP, h9, hd]
          rw [hlt, q1]
          exact Reif.tup (Reifs.cons (Reif.ex rfl) (Reifs.dat rfl))
      · subst hG
        refine vc_ok mixed _ _ _ _ ?_
        simp only [sz.down, ↓reduceIte, Nat.reduceEqDiff, Nat.reduceLT, Nat.reduceLeDiff, Nat.reduceAdd, TEP, tis, h3, h10]
        refine vcB.mk (fun hlt => ?_) (fun hlt => ?_)
        · simp only [decide_eq_true_eq, Int.ofNat_lt] at hlt
          have hgp := hgp hlt
          have hln := hln (by omega)
          have hw := hw (by omega)
          obtain ⟨o1, o2, o3, o4⟩ := oddAs_at i5 hlt
          have key : ∀ b, (lv (valsN g st ins i) g.ands[i].1 && lv (valsN g st ins i) g.ands[i].2) = b → valsN g st ins (i + 1) = valsN g st ins i ++ [b] := fun b hb => by rw [valsN_succ hlt, hb]
          have rv : ∀ b : Int, Reifs TE [O.cells [vi g.ins, ints g.next, ints g.init, prs g.ands, ints g.outs], O.cells (List.map V.bool (valsN g st ins i))] [.ls 1 1 0 (valsN g st ins i).length (valsN g st ins i).length, vi b] [bools (valsN g st ins i), vi b] := fun b => Reifs.cons (reif_bools rfl rfl) (Reifs.cons (Reif.dat rfl) Reifs.nil)
          simp only [sz.down, ↓reduceIte, Nat.reduceEqDiff, Nat.reduceLT, Nat.reduceLeDiff, Nat.reduceAdd, Int.reduceLE, Nat.reduceMul, TEP, tis, ens, h3, h10, h9, hgp]
          refine ⟨⟨by omega, by omega⟩, by decide, ACalls.lend (ev_rlit (valsN g st ins i) g.ands[i].1 o1 (by omega) (by omega)) (rv _) rfl ?_⟩
          cases hv1 : lv (valsN g st ins i) g.ands[i].1 with
          | true =>
            simp only [sz.down, ↓reduceIte, Nat.reduceEqDiff, Nat.reduceLT, Nat.reduceLeDiff, Nat.reduceAdd, Int.reduceToNat, Int.reduceLE, Nat.reduceMul, TEP, tis, ens, h3, h10, h9, hgp]
            refine ⟨⟨by omega, by omega⟩, by decide, ACalls.lend (ev_rlit (valsN g st ins i) g.ands[i].2 o2 (by omega) (by omega)) (rv _) rfl ?_⟩
            simp only [sz.down, ↓reduceIte, Nat.reduceEqDiff, Nat.reduceLT, reduceCtorEq, Nat.reduceMul, TEP, tis, h10, hd, drops_b, hw]
            refine ⟨⟨rfl, by decide⟩, ⟨by omega, by omega, by omega⟩, .inl ⟨m - 1, by omega, i + 1, by omega, by simp only [sz.down, ↓reduceIte, Nat.reduceEqDiff, Nat.reduceBEq, h3], by simp only [sz.down, ↓reduceIte], by simp only [sz.down, hd], .inr ⟨?_, ?_⟩⟩⟩
            · rw [key _ rfl, hv1, List.length_append]; simp only [sz.down, ↓reduceIte, Nat.reduceEqDiff]
            · rw [key _ rfl, hv1, List.map_append]; rfl
          | false =>
            simp only [sz.down, ↓reduceIte, Nat.reduceEqDiff, Nat.reduceLT, Nat.reduceLeDiff, Nat.reduceAdd, Int.reduceToNat, Int.reduceLE, reduceCtorEq, Nat.reduceMul, TEP, tis, h3, h10, h9, hd, hgp, drops_b, hw]
            repeat (refine ⟨.bool false, ?_⟩; simp only [sz.down, ↓reduceIte])
            refine ⟨⟨rfl, by decide⟩, ⟨by omega, by omega, by omega⟩, .inl ⟨m - 1, by omega, i + 1, by omega, by simp only [sz.down, ↓reduceIte, Nat.reduceEqDiff, Nat.reduceBEq, h3], by simp only [sz.down, ↓reduceIte], by simp only [sz.down, hd], .inr ⟨?_, ?_⟩⟩⟩
            · rw [key _ rfl, hv1, List.length_append]; simp only [sz.down, ↓reduceIte, Nat.reduceEqDiff]
            · rw [key _ rfl, hv1, List.map_append]; rfl
        · simp only [decide_eq_false_iff_not, Int.ofNat_lt] at hlt
          have hi : i = g.ands.length := by omega
          simp only [sz.down, ↓reduceIte, Nat.reduceEqDiff, Nat.reduceLT, TEP, h9, hd]
          rw [← hi]
          exact Reif.tup (Reifs.cons (reif_bools rfl rfl) (Reifs.dat rfl))
    · have hv0 : (valsN g st ins 0).map V.bool = V.bool false :: (ins.map V.bool ++ st.map V.bool) := by rw [hfl, List.map_cons, List.map_append]
      have hvl : (valsN g st ins 0).length = 1 + ins.length + st.length := by rw [hfl, List.length_cons, List.length_append]; omega
      rcases hh with ⟨rfl, h9, rfl⟩ | ⟨h9, rfl⟩
      · by_cases hst : st = []
        · refine awp_list ?_
          refine awpL_vc rfl rfl ?_
          simp only [sz.down, TEP, h9]
          refine awpL_vc rfl rfl ?_
          simp only [sz.down, ↓reduceIte, Nat.reduceEqDiff, TEP, h1]
          refine awpL_op rfl rfl ?_
          refine eff_append_zero (x := .tmp 33) (y := .tmp 34) (t := 59) (xt := 59) (el := 4) (cs := []) ⟨⟨_, rfl, rfl, rfl⟩, hq, rfl, hqe, rfl, rfl, Nat.zero_lt_one⟩ (by simp only [sz.down, ↓reduceIte, Nat.reduceEqDiff]) (by simp only [sz.down, ↓reduceIte]) (ex := true) (k := 1) (es := [V.bool false]) (by simp only [sz.down, ↓reduceIte, Nat.reduceEqDiff]) (by simp only [sz.down, ↓reduceIte, TEP, tis]) (by simp only [sz.down, ↓reduceIte, hst]) (by simp only [sz.down, ↓reduceIte, hst]) ?_
          refine awpL_vc rfl rfl ?_
          simp only [sz.down, ↓reduceIte, TEP]
          refine awpL_nil ?_
          refine ⟨rfl, by simp only [sz.down, ↓reduceIte, Nat.reduceEqDiff, h3], by simp only [sz.down, hd], .inl ⟨by rw [hfl, hst]; rfl, by simp only [sz.down, ↓reduceIte], rfl⟩⟩
        · have hpos : 0 < st.length := List.length_pos_iff.2 hst
          refine vc_ok mixed _ _ _ _ ?_
          simp only [sz.down, ↓reduceIte, Nat.reduceEqDiff, Nat.reduceLT, reduceCtorEq, TEP, tis, h1, h3, h9, hd, allOne_b]
          refine ⟨⟨.inr hpos, by omega, by show _ ≤ _; omega⟩, .inr ⟨?_, ?_⟩⟩
          · simp only [sz.down, hvl]
            try simp
          · rw [hv0]; rfl
      · subst hG
        refine vc_ok mixed _ _ _ _ ?_
        simp only [sz.down, ↓reduceIte, Nat.reduceEqDiff, Nat.reduceLT, Nat.reduceBEq, reduceCtorEq, TEP, tis, h1, h3, h9, hd, allOne_b, drops_b]
        refine ⟨⟨by simp [Nat.add_comm], by omega, by show _ ≤ _; omega⟩, .inr ⟨?_, ?_⟩⟩
        · rw [hvl]
        · rw [hv0]
  · by_cases hin : ins = []
    · rw [hG]
      refine awp_list ?_
      refine awpL_vc rfl rfl ?_
      simp only [sz.down, ↓reduceIte, TEP]
      refine awpL_vc rfl rfl ?_
      simp only [sz.down, ↓reduceIte, Nat.reduceEqDiff, TEP]
      refine awpL_op rfl rfl ?_
      refine eff_append_zero (x := .tmp 30) (y := .tmp 31) (t := 59) (xt := 59) (el := 4) (cs := []) ⟨⟨_, rfl, rfl, rfl⟩, hq, rfl, hqe, rfl, rfl, Nat.zero_lt_one⟩ (by simp only [sz.down, ↓reduceIte, Nat.reduceEqDiff]) (by simp only [sz.down, ↓reduceIte]) (ex := true) (k := 1) (es := [V.bool false]) (by simp only [sz.down, ↓reduceIte, Nat.reduceEqDiff] ) (by simp only [sz.down, ↓reduceIte, TEP, tis]) (by simp only [sz.down, ↓reduceIte, hin]) (by simp only [sz.down, ↓reduceIte, hin]) ?_
      refine awpL_vc rfl rfl ?_
      simp only [sz.down, ↓reduceIte, TEP]
      refine awpL_nil ?_
      refine ⟨rfl, by simp only [sz.down, ↓reduceIte, Nat.reduceEqDiff], by simp only [sz.down, ↓reduceIte, Nat.reduceEqDiff], by simp only [sz.down], .inl ⟨hin, by simp only [sz.down, ↓reduceIte], rfl⟩⟩
    · have hpos : 0 < ins.length := List.length_pos_iff.2 hin
      rw [hG]
      refine vc_ok mixed _ _ _ _ ?_
      simp only [sz.down, ↓reduceIte, Nat.reduceEqDiff, Nat.reduceLT, reduceCtorEq, TEP, tis, allOne_b]
      exact ⟨.inr hpos, by omega, by show _ ≤ _; omega⟩

set_option maxHeartbeats 4000000 in
theorem ev_rstep (g : Gr) (st ins : List Bool) (bn : g.next.length ≤ 4000) (bi : g.init.length ≤ 4000) (ba : g.ands.length ≤ 4000) (bo : g.outs.length ≤ 4000) : Ev TE 105 [g.v, bools st, bools ins] (.tup [bools (g.out st ins), bools (g.nxt st ins), vi (g.valE st ins)]) := by
  have hM : maxLen = 9223372036854775807 := rfl
  have hgv := ev_rvals g st ins bn bi ba bo
  unfold Gr.v at hgv ⊢
  have dg : V.dats [.agg [vi g.ins, ints g.next, ints g.init, prs g.ands, ints g.outs], bools st, bools ins] = true := by simp only [V.dats, V.dat, Bool.and_self]
  refine Ev.of_awp Tryz.func105 rfl (by simp [nts]) (vc_ok mixed _ _ _ _ ?_)
  simp only [sz.down, ↓reduceIte, Nat.reduceEqDiff, Nat.reduceLT, Nat.reduceAdd, reduceCtorEq, TEP, tis, ens, nts, Tryz.results105]
  refine ACalls.ev hgv dg ?_
  simp only [sz.down, ↓reduceIte, Nat.reduceEqDiff, Nat.reduceLT, Nat.reduceAdd, TEP]
  refine vcB.mk (fun hc => ?_) (fun hc => ?_)
  · have hc : g.valE st ins ≠ 0 := by simpa using hc
    simp only [sz.down, ↓reduceIte, Nat.reduceEqDiff, Nat.reduceLT, TEP]
    unfold Gr.out Gr.nxt
    rw [if_neg hc, if_neg hc]
    exact Reif.tup (Reifs.cons Reif.nils (Reifs.cons Reif.nils (Reifs.dat rfl)))
  · have hc : g.valE st ins = 0 := by simpa using hc
    have hV : g.valV st ins = g.vals st ins := by unfold Gr.valV; rw [if_pos hc]
    obtain ⟨l1, l2, l3, l4, l5, _⟩ := lits_in hc
    obtain ⟨v, hv⟩ : ∃ v, v = g.vals st ins := ⟨_, rfl⟩
    rw [← hv] at l1 l2
    simp only [sz.down, Nat.reduceLT, TEP, hV]
    rw [← hv]
    refine awp_bareAt 11 1 (by simp only [sz.down, ↓reduceIte, Nat.reduceEqDiff]) ?_
    simp only [sz.down]
    refine awp_loop (fun m f h => ∃ (i : Nat) (cs : List V), m + i = g.outs.length ∧ f.t 3 = .lp 0 0 ∧ f.t 9 = bools v ∧ f.t 11 = .ls 1 1 0 i i ∧ f.t 12 = .nils ∧ f.t 13 = vi i ∧ f.d = [] ∧ cs = ((g.outs.take i).map (lv v)).map V.bool ∧ h = [.cells [vi g.ins, ints g.next, ints g.init, prs g.ands, ints g.outs], .cells cs]) g.outs.length ⟨0, [], by simp, by simp only [sz.down, ↓reduceIte, Nat.reduceEqDiff], by simp only [sz.down, ↓reduceIte, Nat.reduceEqDiff], by simp only [sz.down, ↓reduceIte], by simp only [sz.down, ↓reduceIte, Nat.reduceEqDiff], by simp only [sz.down, ↓reduceIte, Nat.reduceEqDiff]; rfl, by simp only [sz.down], rfl, rfl⟩ ?_
    rintro m f h ⟨i, cs, hm, h3, h9, h11, h12, h13, hd, hcs, rfl⟩
    have hcl : i ≤ g.outs.length → cs.length = i := fun hi => by rw [hcs, List.length_map, List.length_map, List.length_take]; omega
    have hdc : ∀ p, V.drops p cs = cs := fun p => by rw [hcs]; exact drops_b _
    refine vc_ok mixed _ _ _ _ ?_
    simp only [sz.down, ↓reduceIte, Nat.reduceEqDiff, Nat.reduceLT, Nat.reduceAdd, TEP, tis, h3, h13]
    refine vcB.mk (fun hlt => ?_) (fun hlt => ?_)
    · simp only [decide_eq_true_eq, Int.ofNat_lt] at hlt
      obtain ⟨o1, o2, o3⟩ := l1 _ (List.getElem_mem hlt)
      have gi := getI hlt V.any
      have hw := wrap_succ (show i < maxLen by omega)
      have hcl' := hcl (by omega)
      simp only [sz.down, ↓reduceIte, Nat.reduceEqDiff, Nat.reduceLT, Nat.reduceAdd, TEP, tis, ens, h3, h9, h11, h13, gi]
      refine ⟨⟨by omega, by omega⟩, ACalls.ev (ev_rlit v g.outs[i] o1 o2 o3) rfl ?_⟩
      simp only [sz.down, ↓reduceIte, Nat.reduceEqDiff, Nat.reduceLT, reduceCtorEq, Nat.reduceMul, TEP, tis, h13, hd, hdc, hw]
      refine ⟨⟨rfl, by decide⟩, ⟨by omega, by omega, by omega⟩, .inl ⟨m - 1, by omega, i + 1, _, by omega, by simp only [sz.down, ↓reduceIte, Nat.reduceEqDiff, Nat.reduceBEq, h3], by simp only [sz.down, ↓reduceIte, Nat.reduceEqDiff, h9], by simp only [sz.down, ↓reduceIte, Nat.reduceEqDiff], by simp only [sz.down, ↓reduceIte, Nat.reduceEqDiff, h12], by simp only [sz.down, ↓reduceIte], by simp only [sz.down, hd], ?_, rfl⟩⟩
      rw [hcs, show g.outs.take (i + 1) = g.outs.take i ++ [g.outs[i]] by rw [List.take_add_one, List.getElem?_eq_getElem hlt]; rfl, List.map_append, List.map_append]
      rfl
    · simp only [decide_eq_false_iff_not, Int.ofNat_lt] at hlt
      have hi : i = g.outs.length := by omega
      have hcl' := hcl (by omega)
      rw [hi, List.take_length] at hcs
      simp only [sz.down, Nat.reduceLT, TEP]
      refine awp_bareAt 12 1 (by simp only [sz.down, ↓reduceIte, Nat.reduceEqDiff, h12]) ?_
      simp only [sz.down, Nat.reduceAdd, hd]
      refine awp_loop (fun m f h => ∃ (j : Nat) (ds : List V), m + j = g.next.length ∧ f.t 3 = .lp 0 0 ∧ f.t 9 = bools v ∧ f.t 11 = .ls 1 1 0 i i ∧ f.t 12 = .ls 2 1 0 j j ∧ f.t 14 = vi j ∧ f.d = [] ∧ ds = ((g.next.take j).map (lv v)).map V.bool ∧ h = [.cells [vi g.ins, ints g.next, ints g.init, prs g.ands, ints g.outs], .cells cs, .cells ds]) g.next.length ⟨0, [], by simp, by simp only [sz.down, ↓reduceIte, Nat.reduceEqDiff, h3], by simp only [sz.down, ↓reduceIte, Nat.reduceEqDiff, h9], by simp only [sz.down, ↓reduceIte, Nat.reduceEqDiff, h11], by simp only [sz.down, ↓reduceIte], by simp only [sz.down, ↓reduceIte, Nat.reduceEqDiff]; rfl, by simp only [sz.down], rfl, rfl⟩ ?_
      rintro m f h ⟨j, ds, hm, h3, h9, h11, h12, h14, hd, hds, rfl⟩
      have hdl : j ≤ g.next.length → ds.length = j := fun hi => by rw [hds, List.length_map, List.length_map, List.length_take]; omega
      have hdd : ∀ p, V.drops p ds = ds := fun p => by rw [hds]; exact drops_b _
      refine vc_ok mixed _ _ _ _ ?_
      simp only [sz.down, ↓reduceIte, Nat.reduceEqDiff, Nat.reduceLT, Nat.reduceLeDiff, Nat.reduceAdd, TEP, tis, h3, h14]
      refine vcB.mk (fun hlt => ?_) (fun hlt => ?_)
      · simp only [decide_eq_true_eq, Int.ofNat_lt] at hlt
        obtain ⟨o1, o2, o3⟩ := l2 _ (List.getElem_mem hlt)
        have gi := getI hlt V.any
        have hw := wrap_succ (show j < maxLen by omega)
        have hdl' := hdl (by omega)
        simp only [sz.down, ↓reduceIte, Nat.reduceEqDiff, Nat.reduceLT, Nat.reduceLeDiff, Nat.reduceAdd, TEP, tis, ens, h3, h9, h12, h14, gi]
        refine ⟨⟨by omega, by omega⟩, ACalls.ev (ev_rlit v g.next[j] o1 o2 o3) rfl ?_⟩
        simp only [sz.down, ↓reduceIte, Nat.reduceEqDiff, Nat.reduceLT, reduceCtorEq, Nat.reduceMul, TEP, tis, h14, hd, hdd, hdc, hw]
        refine ⟨⟨rfl, by decide⟩, ⟨by omega, by omega, by omega⟩, .inl ⟨m - 1, by omega, j + 1, _, by omega, by simp only [sz.down, ↓reduceIte, Nat.reduceEqDiff, Nat.reduceBEq, h3], by simp only [sz.down, ↓reduceIte, Nat.reduceEqDiff, h9], by simp only [sz.down, ↓reduceIte, Nat.reduceEqDiff, Nat.reduceBEq, h11], by simp only [sz.down, ↓reduceIte, Nat.reduceEqDiff], by simp only [sz.down, ↓reduceIte], by simp only [sz.down, hd], ?_, rfl⟩⟩
        rw [hds, show g.next.take (j + 1) = g.next.take j ++ [g.next[j]] by rw [List.take_add_one, List.getElem?_eq_getElem hlt]; rfl, List.map_append, List.map_append]
        rfl
      · simp only [decide_eq_false_iff_not, Int.ofNat_lt] at hlt
        have hj : j = g.next.length := by omega
        rw [hj, List.take_length] at hds
        simp only [sz.down, ↓reduceIte, Nat.reduceEqDiff, Nat.reduceLT, TEP, h11, h12, hd]
        unfold Gr.out Gr.nxt
        rw [if_pos hc, if_pos hc, hc, ← hv]
        exact Reif.tup (Reifs.cons (reif_bools (by rw [hcs]; rfl) (by rw [hi, List.length_map])) (Reifs.cons (reif_bools (by rw [hds]; rfl) (by rw [hj, List.length_map])) (Reifs.dat rfl)))

end Go.Proofs.YtboolnpmlmgpkaaGreatDoor
