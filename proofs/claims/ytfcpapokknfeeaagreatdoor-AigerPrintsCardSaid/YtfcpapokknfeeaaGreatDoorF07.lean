/- Lemmas for the statement of this claim, part F07: they hold with no conditions but those that each one names. -/
import Derived.Test.YtfcpapokknfeeaaGreatDoorF04
import Derived.Test.YtfcpapokknfeeaaGreatDoorA11
set_option linter.unusedVariables false
set_option maxRecDepth 20000
set_option linter.unusedSimpArgs false
set_option linter.unnecessarySimpa false
namespace Go.Proofs.YtfcpapokknfeeaaGreatDoor
open Go Go.Proofs Go.Abs
theorem mY {α : Type} {l : List α} {p : α → Bool} {i : Nat} (h : i < l.length) (hp : p l[i] = true) : l.any p = true := List.any_eq_true.2 ⟨_, List.getElem_mem h, hp⟩
theorem sQ {α : Type} {l : List α} {p : α → Bool} {i : Nat} (h : ¬ i < l.length) (hall : ∀ x ∈ l.take i, p x = false) : l.any p = false := by rw [List.take_of_length_le (by omega)] at hall;exact List.any_eq_false.2 fun x hx => by rw [hall x hx]; decide
theorem uO (a n : Int) (h0 : -1000000 ≤ n) (h1 : n ≤ 1000000) : Ev TE 133 [vi a, vi n] (.bool (!uF (2 * n) a)) := by
 have hw : IntKind.i64.wrap (2 * n) = 2 * n := dD (by omega) (by omega);refine ax Tryz.func133 rfl (by simp [nts]) (vm ?_);cases h1 : decide (0 ≤ a) with
 | true =>
  simp only [wq.1, seval, Tryz.results133, h1, hw];refine aI rfl ?_;unfold uF;simp only [decide_eq_true_eq] at h1;rw [decide_eq_false (show ¬ a < 0 by omega)];by_cases h : a < 2 * n
  ·rw [decide_eq_true h, decide_eq_false (show ¬ 2 * n ≤ a by omega)]; rfl
  ·rw [decide_eq_false h, decide_eq_true (show 2 * n ≤ a by omega)]; rfl
 | false => simp only [wq.1, seval, Tryz.results133, h1];refine aI rfl ?_;unfold uF;simp only [decide_eq_false_iff_not] at h1;simp [show a < 0 by omega]
theorem qf (g : Gr) (h0 : -1000000000 ≤ g.ins) (h1 : g.ins ≤ 1000000000) (h2 : g.next.length ≤ 1000000000) : Ev TE 38 [g.v] (vi g.first) := by
 unfold Gr.v Gr.first
 refine ax Tryz.func38 rfl (by simp [nts]) (vm ?_);simp only [wq.1, seval, Tryz.results38];rw [bu (n := 1 + g.ins) (by omega) (by omega), bu (by omega) (by omega)];exact aG.dat rfl
theorem Y8 {l : List Pr} {i : Nat} (h : i < l.length) (d : V) : (l.map prV).getD i d = prV l[i] := jL h d
theorem uP {g : Gr} (hl : g.lim = false) (h : g.oddR = true) : g.chk = 1 := by unfold Gr.chk; rw [if_neg (by simp [hl]), if_pos h]
theorem WE {g : Gr} (hl : g.lim = false) (h : g.oddAs g.ands.length = true) : g.chk = 1 := by
 unfold Gr.chk; rw [if_neg (by simp [hl])];by_cases hr : g.oddR = true
 ·rw [if_pos hr]
 ·rw [if_neg hr, if_pos h]
set_option maxHeartbeats 4000000 in
theorem xC (g : Gr) (bn : g.next.length ≤ 4000) (bi : g.init.length ≤ 4000) (ba : g.ands.length ≤ 4000) (bo : g.outs.length ≤ 4000) : Ev TE 87 [g.v] (vi g.chk) := by
 have hM : maxLen = 9223372036854775807 := rfl;have hfi : g.lim = false → Ev TE 38 [g.v] (vi g.first) := fun h => by simp only [Gr.lim, Bool.or_eq_false_iff, decide_eq_false_iff_not] at h;exact qf g (by omega) (by omega) (by omega)
 unfold Gr.v at *;refine ax Tryz.func87 rfl (by simp [nts]) (vm ?_);cases h1 : decide (g.ins < 0) with
 | true =>
  simp only [wq.1, seval, Tryz.results87, h1]
  repeat (refine ⟨.bool true, ?_⟩; simp only [wq.1, seval, au, Tryz.results87, h1])
  exact aI rfl (by unfold Gr.chk; rw [if_pos (by unfold Gr.lim; rw [h1]; rfl)])
 | false =>
 cases h2 : decide (4000 < g.ins) with
 | true =>
  simp only [wq.1, seval, Tryz.results87, h1, h2]
  repeat (refine ⟨.bool true, ?_⟩; simp only [wq.1, seval, au, Tryz.results87, h1, h2])
  exact aI rfl (by unfold Gr.chk; rw [if_pos (by unfold Gr.lim; rw [h1, h2]; rfl)])
 | false =>
 have g1 : 0 ≤ g.ins ∧ g.ins ≤ 4000 := by simp only [decide_eq_false_iff_not] at h1 h2; omega
 have w1 : IntKind.i64.wrap (g.ins + (g.next.length : Int)) = g.ins + g.next.length := dD (by omega) (by omega)
 have w2 : IntKind.i64.wrap (g.ins + (g.next.length : Int) + (g.ands.length : Int)) = g.ins + g.next.length + g.ands.length := dD (by omega) (by omega)
 cases h3 : decide (4000 < g.ins + (g.next.length : Int) + (g.ands.length : Int)) with
 | true =>
  simp only [wq.1, seval, Tryz.results87, h1, h2, w1, w2, h3]
  repeat (refine ⟨.bool true, ?_⟩; simp only [wq.1, seval, au, Tryz.results87, h1, h2, w1, w2, h3])
  exact aI rfl (by unfold Gr.chk; rw [if_pos (by unfold Gr.lim; rw [h1, h2, h3]; rfl)])
 | false =>
 cases h4 : decide (4000 < (g.outs.length : Int)) with
 | true => simp only [wq.1, seval, Tryz.results87, h1, h2, w1, w2, h3, h4];exact aI rfl (by unfold Gr.chk; rw [if_pos (by unfold Gr.lim; rw [h1, h2, h3, h4]; rfl)])
 | false =>
 have hl : g.lim = false := by unfold Gr.lim; rw [h1, h2, h3, h4]; rfl
 cases h5 : (g.init.length : Int) != (g.next.length : Int) with
 | true =>
  simp only [wq.1, seval, Tryz.results87, h1, h2, w1, w2, h3, h4, h5];refine aI rfl ?_;have h5' : (g.init.length != g.next.length) = true := by simp only [bne_iff_ne, ne_eq, Int.natCast_inj] at h5 ⊢; exact h5
  rw [uP hl (by unfold Gr.oddR; rw [h5']; rfl)]
 | false =>
 have h5' : (g.init.length != g.next.length) = false := by simp only [bne_eq_false_iff_eq, Int.natCast_inj] at h5 ⊢; exact h5
 have hil : g.init.length = g.next.length := by simpa using h5'
 have hf := hfi hl;have wf : g.first = 1 + g.ins + g.next.length := rfl
 have wa : g.all = 2 * (g.first + g.ands.length) := rfl;have w3 : IntKind.i64.wrap (g.first + (g.ands.length : Int)) = g.first + g.ands.length := dD (by omega) (by omega)
 simp only [wq.1, seval, Tryz.results87, h1, h2, w1, w2, h3, h4, h5];refine ⟨by decide +kernel, tZ.mk hf rfl (by simp only [V.dats, V.dat, Bool.and_self]) ?_⟩;simp only [wq.1, seval, w3];have hlit := fun a : Int => uO a (g.first + g.ands.length) (by omega) (by omega);rw [← wa] at hlit;obtain ⟨A, hA⟩ : ∃ A : Int, A = g.first + g.ands.length := ⟨_, rfl⟩
 rw [← hA] at hlit;rw [← hA];refine aA (fun m f h => ∃ i, m + i = g.next.length ∧ f.t 1 = .lp 0 0 ∧ f.t 3 = vi A ∧ f.t 4 = vi i ∧ f.d = [] ∧ h = [O.cells [vi g.ins, aF g.next, aF g.init, prs g.ands, aF g.outs]] ∧ (∀ x ∈ g.next.take i, uF g.all x = false) ∧ ∀ x ∈ g.init.take i, J8 x = false) g.next.length ⟨0, by simp, by simp only [wq.1, seval], by simp only [wq.1, seval], by simp only [wq.1, ↓reduceIte]; rfl, by simp only [wq.1], rfl, by simp, by simp⟩ ?_
 rintro m f h ⟨i, hm, k1, k3, k4, hd, rfl, hall, hall2⟩;refine vm ?_;simp only [wq.1, seval, k1, k4];refine vcB.mk (fun hc => ?_) (fun hc => ?_)
 ·simp only [decide_eq_true_eq, Int.ofNat_lt] at hc;have hc2 : i < g.init.length := by omega
  have gi := rU hc V.any;have gi2 := rU hc2 V.any;have hw := ak (show i < maxLen by omega);cases e1 : decide (g.init[i] < 0) with
  | true =>
   simp only [wq.1, seval, k1, k3, k4, gi, gi2, e1]
   repeat (first | refine ⟨⟨by omega, by omega⟩, ?_⟩ | (refine ⟨.bool true, ?_⟩; simp only [wq.1, seval, hd]))
   refine aI rfl ?_;rw [uP hl (by unfold Gr.oddR; rw [mY (p := J8) hc2 (by unfold J8; rw [e1]; rfl)]; simp)]
  | false =>
  cases e2 : decide (2 < g.init[i]) with
  | true =>
   simp only [wq.1, seval, k1, k3, k4, gi, gi2, e1, e2]
   repeat (first | refine ⟨⟨by omega, by omega⟩, ?_⟩ | (refine ⟨.bool true, ?_⟩; simp only [wq.1, seval, hd]))
   refine aI rfl ?_;rw [uP hl (by unfold Gr.oddR; rw [mY (p := J8) hc2 (by unfold J8; rw [e1, e2]; rfl)]; simp)]
  | false =>
   simp only [wq.1, seval, k1, k3, k4, gi, gi2, e1, e2];refine ⟨⟨by omega, by omega⟩, ⟨by omega, by omega⟩, ⟨by omega, by omega⟩, ah.ev (hlit _) rfl ?_⟩;cases e3 : uF g.all g.next[i] with
   | true => simp only [wq.1, seval, hd];refine aI rfl ?_;rw [uP hl (by unfold Gr.oddR; rw [mY (p := uF g.all) hc e3]; simp)]
   | false => simp only [wq.1, seval, k4, hw];exact .inl ⟨m - 1, by omega, i + 1, by omega, k1, k3, rfl, hd, rfl, bz hc hall e3, bz hc2 hall2 (by unfold J8; rw [e1, e2]; rfl)⟩
 ·simp only [decide_eq_false_iff_not, Int.ofNat_lt] at hc;have r1 := sQ hc hall;have r2 := sQ (p := J8) (by omega) hall2;simp only [wq.1, Nat.reduceLT];refine aA (fun m f h => ∃ i, m + i = g.ands.length ∧ f.t 1 = .lp 0 0 ∧ f.t 3 = vi A ∧ f.t 5 = vi i ∧ f.d = [] ∧ h = [O.cells [vi g.ins, aF g.next, aF g.init, prs g.ands, aF g.outs]] ∧ g.oddAs i = false) g.ands.length ⟨0, by simp, by simp only [wq.1, seval, k1], by simp only [wq.1, seval, k3], by simp only [wq.1, ↓reduceIte]; rfl, by simp only [wq.1, hd], rfl, rfl⟩ ?_;rintro m f h ⟨i, hm, k1, k3, k5, hd, rfl, hno⟩;refine vm ?_;simp only [wq.1, seval, k1, k5];refine vcB.mk (fun hc => ?_) (fun hc => ?_)
  ·simp only [decide_eq_true_eq, Int.ofNat_lt] at hc;have gi := Y8 hc V.any;have hw := ak (show i < maxLen by omega);have w4 : IntKind.i64.wrap (g.first + (i : Int)) = g.first + i := dD (by omega) (by omega)
   have hlit := fun a : Int => uO a (g.first + i) (by omega) (by omega);have hge : g.ands.getD i (0, 0) = g.ands[i] := aO hc;have hext : ∀ b, UT (2 * (g.first + i)) g.ands[i] = b → g.oddAs (i + 1) = b := fun b hb => by unfold Gr.oddAs at hno ⊢;rw [List.range_succ, List.any_append, hno];simp only [List.any_cons, List.any_nil, Bool.or_false, Bool.false_or, hge, hb]
   have hbad : UT (2 * (g.first + i)) g.ands[i] = true → g.chk = 1 := fun hb => by refine WE hl ?_;have := hext _ hb;unfold Gr.oddAs at this ⊢;rw [List.any_eq_true] at this ⊢;obtain ⟨x, hx, hy⟩ := this;exact ⟨x, List.mem_range.2 (by have := List.mem_range.1 hx; omega), hy⟩
   have hodd : UT (2 * (g.first + i)) g.ands[i] = (uF (2 * (g.first + i)) g.ands[i].1 || uF (2 * (g.first + i)) g.ands[i].2) := by unfold UT uF;cases decide (g.ands[i].1 < 0) <;> cases decide (g.ands[i].2 < 0) <;> cases decide (2 * (g.first + (i : Int)) ≤ g.ands[i].1) <;> rfl
   simp only [wq.1, ↓reduceIte, Nat.reduceEqDiff, Nat.reduceLT, Nat.reduceLeDiff, Nat.reduceAdd, Nat.reduceSub, Int.reduceToNat, Nat.reduceDiv, Int.reduceLT, Int.reduceLE, Int.reduceNeg, Int.reduceBEq, Int.reduceBNe, Int.reduceAdd, Int.reduceSub, Nat.reduceBEq, reduceCtorEq, Nat.reduceMul, au, Tryz.results87, k1, k3, k5, hd];refine ah.ev hf (by simp only [V.dats, V.dat, Bool.and_self]) ?_;simp only [wq.1, ↓reduceIte, Nat.reduceEqDiff, Nat.reduceLT, Nat.reduceLeDiff, Nat.reduceAdd, Nat.reduceSub, Int.reduceToNat, Nat.reduceDiv, Int.reduceLT, Int.reduceLE, Int.reduceNeg, Int.reduceBEq, Int.reduceBNe, Int.reduceAdd, Int.reduceSub, Nat.reduceBEq, reduceCtorEq, Nat.reduceMul, au, Tryz.results87, bD, k1, k3, k5, hd, w4, gi];refine ⟨⟨by omega, by omega⟩, by decide, ah.ev (hlit _) rfl ?_⟩;cases e3 : uF (2 * (g.first + i)) g.ands[i].1 with
   | true =>
    simp only [wq.1, ↓reduceIte, Nat.reduceEqDiff, Nat.reduceLT, Nat.reduceLeDiff, Nat.reduceAdd, Nat.reduceSub, Int.reduceToNat, Nat.reduceDiv, Int.reduceLT, Int.reduceLE, Int.reduceNeg, Int.reduceBEq, Int.reduceBNe, Int.reduceAdd, Int.reduceSub, Nat.reduceBEq, reduceCtorEq, Nat.reduceMul, au, Tryz.results87, bD, k1, k3, k5, hd, e3]
    repeat (refine ⟨.bool true, ?_⟩; simp only [wq.1, ↓reduceIte, Nat.reduceEqDiff, Nat.reduceLT, Nat.reduceLeDiff, Nat.reduceAdd, Nat.reduceSub, Int.reduceToNat, Nat.reduceDiv, Int.reduceLT, Int.reduceLE, Int.reduceNeg, Int.reduceBEq, Int.reduceBNe, Int.reduceAdd, Int.reduceSub, Nat.reduceBEq, reduceCtorEq, Nat.reduceMul, au, Tryz.results87, k1, k3, k5, hd, e3])
    refine aI rfl ?_;rw [hbad (by rw [hodd, e3]; rfl)]
   | false =>
    simp only [wq.1, ↓reduceIte, Nat.reduceEqDiff, Nat.reduceLT, Nat.reduceLeDiff, Nat.reduceAdd, Nat.reduceSub, Int.reduceToNat, Nat.reduceDiv, Int.reduceLT, Int.reduceLE, Int.reduceNeg, Int.reduceBEq, Int.reduceBNe, Int.reduceAdd, Int.reduceSub, Nat.reduceBEq, reduceCtorEq, Nat.reduceMul, au, Tryz.results87, bD, k1, k3, k5, hd, e3, gi];refine ⟨⟨by omega, by omega⟩, by decide, ah.ev (hlit _) rfl ?_⟩;cases e4 : uF (2 * (g.first + i)) g.ands[i].2 with
    | true => simp only [wq.1, seval, hd];refine aI rfl ?_;rw [hbad (by rw [hodd, e3, e4]; rfl)]
    | false => simp only [wq.1, seval, k5, hw];exact .inl ⟨m - 1, by omega, i + 1, by omega, k1, k3, rfl, hd, rfl, hext _ (by rw [hodd, e3, e4]; rfl)⟩
  ·simp only [decide_eq_false_iff_not, Int.ofNat_lt] at hc;have hi : i = g.ands.length := by omega
   rw [hi] at hno;simp only [wq.1, Nat.reduceLT];refine aA (fun m f h => ∃ i, m + i = g.outs.length ∧ f.t 1 = .lp 0 0 ∧ f.t 3 = vi A ∧ f.t 7 = vi i ∧ f.d = [] ∧ h = [O.cells [vi g.ins, aF g.next, aF g.init, prs g.ands, aF g.outs]] ∧ (∀ x ∈ g.outs.take i, uF g.all x = false)) g.outs.length ⟨0, by simp, by simp only [wq.1, seval, k1], by simp only [wq.1, seval, k3], by simp only [wq.1, ↓reduceIte]; rfl, by simp only [wq.1, hd], rfl, by simp⟩ ?_;rintro m f h ⟨i, hm, k1, k3, k7, hd, rfl, hall⟩;refine vm ?_;simp only [wq.1, seval, k1, k7];refine vcB.mk (fun hc => ?_) (fun hc => ?_)
   ·simp only [decide_eq_true_eq, Int.ofNat_lt] at hc;have gi := rU hc V.any;have hw := ak (show i < maxLen by omega);simp only [wq.1, seval, k1, k3, k7, gi];refine ⟨⟨by omega, by omega⟩, ah.ev (hlit _) rfl ?_⟩;cases e3 : uF g.all g.outs[i] with
    | true => simp only [wq.1, seval, hd];refine aI rfl ?_;rw [uP hl (by unfold Gr.oddR; rw [mY (p := uF g.all) hc e3]; simp)]
    | false => simp only [wq.1, seval, k7, hw];exact .inl ⟨m - 1, by omega, i + 1, by omega, k1, k3, rfl, hd, rfl, bz hc hall e3⟩
   ·simp only [decide_eq_false_iff_not, Int.ofNat_lt] at hc;have r3 := sQ hc hall;simp only [wq.1, seval, hd];refine aI rfl ?_;unfold Gr.chk;rw [if_neg (by simp [hl]), if_neg (by unfold Gr.oddR; rw [h5', r1, r2, r3]; decide), if_neg (by simp [hno])]
theorem oV (l : List S) : Ev TE 121 [aV l] (.bool (!l.any iG)) := by
 refine Ev.bnd fun hb => ?_;have hlen := jP hb;refine ax Tryz.func121 rfl (by simp [nts]) (vm ?_);simp only [wq.1, Nat.reduceLT, Tryz.results121];refine aA (fun m f h => ∃ i, m + i = l.length ∧ f.t 0 = aV l ∧ f.t 3 = .int .i64 (i : Int) ∧ f.d = [] ∧ ∀ x ∈ l.take i, iG x = false) l.length ⟨0, by simp, rfl, rfl, rfl, by simp⟩ ?_;rintro m f h ⟨i, hm, h0, h5, hd, hall⟩;refine vm ?_;simp only [wq.1, seval, h0, h5];refine vcB.mk (fun hc => ?_) (fun hc => ?_)
 ·simp only [decide_eq_true_eq, Int.ofNat_lt] at hc;simp only [wq.1, seval, h0, h5, J3 hc];refine ⟨⟨by omega, by omega⟩, ah.ev (SQ _) rfl ?_⟩;cases hv : jC l[i] with
  | false => simp only [wq.1, seval, hd];refine aI rfl ?_;rw [mY (p := iG) hc (by unfold iG; rw [hv]; rfl)]; rfl
  | true => simp only [wq.1, seval, h5, ak (show i < maxLen by omega)];exact .inl ⟨m - 1, by omega, i + 1, by omega, h0, rfl, hd, bz hc hall (by unfold iG; rw [hv]; rfl)⟩
 ·simp only [decide_eq_false_iff_not, Int.ofNat_lt] at hc;simp only [wq.1, seval, hd];refine aI rfl ?_;rw [sQ hc hall]; rfl
theorem Gp (m : Mo) (hl : m.ins.length + m.lat.length ≤ 1000000) : Ev TE 123 [m.v] (aV (m.ins ++ m.lat)) := by have hM : maxLen = 9223372036854775807 := rfl;unfold Mo.v;refine ax Tryz.func123 rfl (by simp [nts]) (vm ?_);simp only [wq.1, seval, Tryz.results123, yS];refine ⟨⟨by omega, by show _ ≤ _; omega⟩, ⟨by omega, by omega, by show _ ≤ _; omega⟩, ?_⟩;exact fH (by rw [List.map_append]; rfl) (by simp)
theorem E9 (m : Mo) (s : S) (hl : m.ins.length + m.lat.length ≤ 1000000) : Ev TE 124 [m.v, .str s] (vi (m.place s)) := by
 have hM : maxLen = 9223372036854775807 := rfl;have hn := Gp m hl;unfold Mo.v at *;unfold Mo.place;obtain ⟨c, hcc⟩ : ∃ c, c = m.ins ++ m.lat := ⟨_, rfl⟩;have hcl : c.length ≤ 1000000 := by rw [hcc, List.length_append]; exact hl
 simp only [← hcc] at hn ⊢;refine ax Tryz.func124 rfl (by simp [nts]) (vm ?_);simp only [wq.1, seval, Tryz.results124];refine ah.ev hn (by simp only [V.dats, V.dat, Bool.and_self]) ?_;simp only [wq.1, seval];refine aA (fun m f h => ∃ i, m + i = c.length ∧ f.t 1 = .str s ∧ f.t 5 = aV c ∧ f.t 6 = .int .i64 (i : Int) ∧ f.d = [] ∧ ∀ x ∈ c.take i, (x == s) = false) c.length ⟨0, by simp, by simp only [wq.1, seval], by simp only [wq.1, seval], by simp only [wq.1, ↓reduceIte]; rfl, by simp only [wq.1], by simp⟩ ?_;rintro m f h ⟨i, hm, h1, h5, h6, hd, hall⟩;refine vm ?_;simp only [wq.1, seval, h5, h6];refine vcB.mk (fun hc => ?_) (fun hc => ?_)
 ·simp only [decide_eq_true_eq, Int.ofNat_lt] at hc;simp only [wq.1, seval, h1, h5, h6, J3 hc];refine ⟨⟨by omega, by omega⟩, ?_⟩;cases hv : c[i] == s with
  | true => simp only [wq.1, seval, h6, hd, ak (show i < maxLen by omega)];refine aI rfl ?_;have hix := pW hc hall hv;simp only [hix];rw [if_neg (show ¬ (i : Int) < 0 by omega)];exact congrArg vi (by omega)
  | false => simp only [wq.1, seval, h6, ak (show i < maxLen by omega)];exact .inl ⟨m - 1, by omega, i + 1, by omega, h1, h5, rfl, hd, bz hc hall hv⟩
 ·simp only [decide_eq_false_iff_not, Int.ofNat_lt] at hc;simp only [wq.1, seval, hd];rw [List.take_of_length_le (by omega)] at hall;rw [nJ hall];exact aG.dat rfl
set_option maxHeartbeats 4000000 in
theorem Fa (m : Mo) (bn : m.g.next.length ≤ 4000) (bi : m.g.init.length ≤ 4000) (ba : m.g.ands.length ≤ 4000) (bo : m.g.outs.length ≤ 4000) (b1 : m.ins.length ≤ 4000) (b2 : m.lat.length ≤ 4000) (b3 : m.out.length ≤ 4000) : Ev TE 72 [m.v] (vi m.chk) := by
 have hM : maxLen = 9223372036854775807 := rfl;have hg := xC m.g bn bi ba bo;have hn := Gp m (by omega);have hpl := fun s => E9 m s (by omega);unfold Mo.v Gr.v at *;refine ax Tryz.func72 rfl (by simp [nts]) (vm ?_);simp only [wq.1, seval, Tryz.results72];refine ah.ev hg (by simp only [V.dats, V.dat, Bool.and_self]) ?_;simp only [wq.1, seval];refine vcB.mk (fun hc => ?_) (fun hc => ?_)
 ·simp only [wq.1, seval];exact aI rfl (by unfold Mo.chk; rw [if_pos (by simpa using hc)])
 have hgc : m.g.chk = 0 := by simpa using hc
 have k8 : m.lens = true → m.chk = 1 := fun h => by unfold Mo.chk; rw [if_neg (by simp [hgc]), if_pos h]
 cases h1 : (m.ins.length : Int) != m.g.ins with
 | true =>
  simp only [wq.1, seval, h1]
  repeat (refine ⟨.bool true, ?_⟩; simp only [wq.1, seval, au, Tryz.results72, h1])
  exact aI rfl (by rw [k8 (by unfold Mo.lens; rw [h1]; rfl)])
 | false =>
 cases h2 : (m.lat.length : Int) != (m.g.next.length : Int) with
 | true =>
  simp only [wq.1, seval, h1, h2]
  repeat (refine ⟨.bool true, ?_⟩; simp only [wq.1, seval, au, Tryz.results72, h1, h2])
  exact aI rfl (by rw [k8 (by unfold Mo.lens; rw [h1, h2]; rfl)])
 | false =>
 cases h3 : (m.out.length : Int) != (m.g.outs.length : Int) with
 | true =>
  simp only [wq.1, seval, h1, h2, h3]
  repeat (refine ⟨.bool true, ?_⟩; simp only [wq.1, seval, au, Tryz.results72, h1, h2, h3])
  exact aI rfl (by rw [k8 (by unfold Mo.lens; rw [h1, h2, h3]; rfl)])
 | false =>
 have hlens : m.lens = false := by unfold Mo.lens; rw [h1, h2, h3]; rfl
 have k7 : m.names = true → m.chk = 4 := fun h => by unfold Mo.chk; rw [if_neg (by simp [hgc]), if_neg (by simp [hlens]), if_pos h]
 simp only [wq.1, seval, h1, h2, h3];refine ah.ev (oV m.ins) rfl ?_;cases h4 : m.ins.any iG with
 | true =>
  simp only [wq.1, seval]
  repeat (refine ⟨.bool true, ?_⟩; simp only [wq.1, seval])
  exact aI rfl (by rw [k7 (by unfold Mo.names; rw [h4]; rfl)])
 | false =>
 simp only [wq.1, seval];refine ah.ev (oV m.lat) rfl ?_;cases h5 : m.lat.any iG with
 | true =>
  simp only [wq.1, seval]
  repeat (refine ⟨.bool true, ?_⟩; simp only [wq.1, seval])
  exact aI rfl (by rw [k7 (by unfold Mo.names; rw [h4, h5]; rfl)])
 | false =>
 simp only [wq.1, seval];refine ah.ev (oV m.out) rfl ?_;cases h6 : m.out.any iG with
 | true => simp only [wq.1, seval];exact aI rfl (by rw [k7 (by unfold Mo.names; rw [h4, h5, h6]; rfl)])
 | false =>
 have hnames : m.names = false := by unfold Mo.names; rw [h4, h5, h6]; rfl
 have k6 : m.twos = true → m.chk = 5 := fun h => by unfold Mo.chk; rw [if_neg (by simp [hgc]), if_neg (by simp [hlens]), if_neg (by simp [hnames]), if_pos h]
 have htw : ∀ l : List S, XX l = !uG l := fun l => by unfold XX uG; rw [Bool.not_not]
 simp only [wq.1, seval];refine ah.ev hn (by simp only [V.dats, V.dat, Bool.and_self]) ?_;simp only [wq.1, seval];refine ah.ev (NE _) rfl ?_;rw [htw];cases h7 : uG (m.ins ++ m.lat) with
 | true =>
  simp only [wq.1, seval]
  repeat (refine ⟨.bool true, ?_⟩; simp only [wq.1, seval])
  exact aI rfl (by rw [k6 (by unfold Mo.twos; rw [h7]; rfl)])
 | false =>
 simp only [wq.1, seval];refine ah.ev (NE _) rfl ?_;rw [htw];cases h8 : uG m.out with
 | true => simp only [wq.1, seval];exact aI rfl (by rw [k6 (by unfold Mo.twos; rw [h7, h8]; rfl)])
 | false =>
 have htwos : m.twos = false := by unfold Mo.twos; rw [h7, h8]; rfl
 have k5 : m.other m.out.length = true → m.chk = 5 := fun h => by unfold Mo.chk; rw [if_neg (by simp [hgc]), if_neg (by simp [hlens]), if_neg (by simp [hnames]), if_neg (by simp [htwos]), if_pos h]
 have hol : m.out.length = m.g.outs.length := by simp only [bne_eq_false_iff_eq] at h3; omega
 simp only [wq.1, seval];refine aA (fun k f h => ∃ i, k + i = m.out.length ∧ f.t 1 = .lp 0 0 ∧ f.t 4 = vi i ∧ f.d = [] ∧ h = [O.cells [vi m.g.ins, aF m.g.next, aF m.g.init, prs m.g.ands, aF m.g.outs, aV m.ins, aV m.lat, aV m.out]] ∧ m.other i = false) m.out.length ⟨0, by simp, by simp only [wq.1, seval], by simp only [wq.1, ↓reduceIte]; rfl, by simp only [wq.1], rfl, rfl⟩ ?_;rintro k f h ⟨i, hk, q1, q4, hd, rfl, hno⟩;refine vm ?_;simp only [wq.1, seval, q1, q4];refine vcB.mk (fun hc => ?_) (fun hc => ?_)
 ·simp only [decide_eq_true_eq, Int.ofNat_lt] at hc;have hc3 : i < m.g.outs.length := by omega
  have gs := J3 hc V.any;have gi := rU hc3 V.any;have hw := ak (show i < maxLen by omega);have hpg := NP (m.ins ++ m.lat) (· == m.out[i]);rw [List.length_append] at hpg;have hpr : -1 ≤ m.place m.out[i] ∧ m.place m.out[i] ≤ 10000 := by unfold Mo.place;split <;> omega
  have hgo : m.out.getD i [] = m.out[i] := aO hc;have hgg : m.g.outs.getD i 0 = m.g.outs[i] := aO hc3;have w2 : IntKind.i64.wrap (2 * m.place m.out[i]) = 2 * m.place m.out[i] := bu (by omega) (by omega);have hother : m.other (i + 1) = (decide (0 ≤ m.place m.out[i]) && m.g.outs[i] != 2 * m.place m.out[i]) := by unfold Mo.other at hno ⊢;rw [List.range_succ, List.any_append, List.any_cons, List.any_nil, Bool.or_false, hgo, hgg, hno, Bool.false_or]
  simp only [wq.1, seval, q1, q4, gs];refine ⟨by decide +kernel, ⟨by omega, by omega⟩, tZ.mk (hpl m.out[i]) rfl (by simp only [V.dats, V.dat, Bool.and_self]) ?_⟩;cases e1 : decide (0 ≤ m.place m.out[i]) with
  | false => simp only [wq.1, seval, q1, q4, e1, gi, hw];exact .inl ⟨k - 1, by omega, i + 1, by omega, q1, rfl, hd, rfl, by rw [hother, e1]; rfl⟩
  | true =>
  cases e2 : m.g.outs[i] != 2 * m.place m.out[i] with
  | true => simp only [wq.1, seval, q1, q4, hd, e1, gi, w2, e2];refine ⟨⟨by omega, by omega⟩, aI rfl ?_⟩;rw [k5 (xy (by omega) (by rw [hother, e1, e2]; rfl : m.other (i + 1) = true))]
  | false => simp only [wq.1, seval, q1, q4, e1, gi, w2, e2, hw];exact ⟨⟨by omega, by omega⟩, .inl ⟨k - 1, by omega, i + 1, by omega, q1, rfl, hd, rfl, by rw [hother, e1, e2]; rfl⟩⟩
 ·simp only [decide_eq_false_iff_not, Int.ofNat_lt] at hc;have hi : i = m.out.length := by omega
  simp only [wq.1, seval, hd];refine aI rfl ?_;unfold Mo.chk;rw [if_neg (by simp [hgc]), if_neg (by simp [hlens]), if_neg (by simp [hnames]), if_neg (by simp [htwos]), ← hi, if_neg (by simp [hno])]
def xE (a : Int) : Int := if a % 2 = 0 then a + 1 else a - 1
theorem Fb {a : Int} (h0 : 0 ≤ a) (h1 : a ≤ 1000000000) : IntKind.i64.wrap ((BitVec.ofInt IntKind.i64.bits a ^^^ BitVec.ofInt IntKind.i64.bits 1).toNat : Int) = xE a := by
 obtain ⟨n, rfl⟩ : ∃ n : Nat, a = n := ⟨a.toNat, by omega⟩;have e1 : (BitVec.ofInt IntKind.i64.bits (n : Int) ^^^ BitVec.ofInt IntKind.i64.bits 1).toNat = n ^^^ 1 := by
  show (BitVec.ofInt 64 (n : Int) ^^^ BitVec.ofInt 64 1).toNat = n ^^^ 1;rw [BitVec.toNat_xor];have : (BitVec.ofInt 64 (n : Int)).toNat = n := by simp; omega
  rw [this];rfl
 have e2 : n ^^^ 1 = if n % 2 = 0 then n + 1 else n - 1 := by
  have h : (n ^^^ 1) % 2 = (n + 1) % 2 := by have h3 := Nat.testBit_xor n 1 0;simp only [Nat.testBit_zero] at h3;rcases Nat.mod_two_eq_zero_or_one n with h4 | h4 <;> rcases Nat.mod_two_eq_zero_or_one (n ^^^ 1) with h5 | h5 <;> simp [h4, h5] at h3 <;> omega
  have h2 : (n ^^^ 1) / 2 = n / 2 := by rw [Nat.xor_div_two]; simp
  split <;> omega
 rw [e1, e2];unfold xE;split <;> split <;> (rw [bu (by omega) (by omega)]; omega)
theorem TJ {a : Int} (h0 : 0 ≤ a) (h1 : a ≤ 1000000000) : IntKind.i64.wrap ((BitVec.ofInt IntKind.i64.bits a ^^^ BitVec.ofInt IntKind.i64.bits 0).toNat : Int) = a := by
 obtain ⟨n, rfl⟩ : ∃ n : Nat, a = n := ⟨a.toNat, by omega⟩;have e1 : (BitVec.ofInt IntKind.i64.bits (n : Int) ^^^ BitVec.ofInt IntKind.i64.bits 0).toNat = n := by
  show (BitVec.ofInt 64 (n : Int) ^^^ BitVec.ofInt 64 0).toNat = n;rw [BitVec.toNat_xor];have : (BitVec.ofInt 64 (n : Int)).toNat = n := by simp; omega
  rw [this];simp
 rw [e1, bu (by omega) (by omega)]
theorem Kz (c : Cl) (hc : c.length ≤ 1000000) : EvF TE 130 [aF c] 1 c.length (c.map vi) := by
 have hM : maxLen = 9223372036854775807 := rfl;unfold EvF;refine ay Tryz.func130 rfl (by simp [nts]) (vm ?_);simp only [wq.1, seval, Tryz.results130];intro b hb;cases b with
 | true =>
  have : c = [] := by simpa using hb rfl
  subst this;simp only [wq.1, ↓reduceIte, Nat.reduceLT, reduceCtorEq]
 | false => simp only [wq.1, ↓reduceIte, Nat.reduceEqDiff, Nat.reduceLT, reduceCtorEq, Nat.reduceMul, uD];exact ⟨⟨rfl, by decide⟩, ⟨by omega, by show _ ≤ _; omega⟩, .inr ⟨0, _, rfl, Nat.le_refl _, rfl⟩⟩
theorem Ce : ∀ l : List Pr, (l.flatMap fun p => [vi p.1, vi p.2]).length = l.length * 2
 | [] => rfl
 | a :: l => by rw [List.flatMap_cons, List.length_append, Ce l, List.length_cons]; simp; omega
theorem Yu {q : Nat → Bool} : ∀ l : List Pr, V.drops q (l.flatMap fun p => [vi p.1, vi p.2]) = l.flatMap fun p => [vi p.1, vi p.2]
 | [] => rfl
 | a :: l => by show V.drop q (vi a.1) :: V.drop q (vi a.2) :: V.drops q (l.flatMap fun p => [vi p.1, vi p.2]) = _;rw [Yu l]; rfl
theorem WF : ∀ l : List Pr, (l.map prV).flatMap V.vc = l.flatMap fun p => [vi p.1, vi p.2]
 | [] => rfl
 | a :: l => by rw [List.map_cons, List.flatMap_cons, WF l]; rfl
theorem U1 : ∀ l : List Pr, cu (l.flatMap fun p => [vi p.1, vi p.2]) = true
 | [] => rfl
 | a :: l => by simp only [List.flatMap_cons, List.cons_append, List.nil_append, cu, U1 l, V.one, V.vc, List.length_singleton]; rfl
theorem U2 : ∀ l : List Pr, dY 2 (l.map prV) = true
 | [] => rfl
 | a :: l => by simp only [List.map_cons, dY, U2 l, V.fit, V.vc]; rfl
theorem U3 : ∀ l : List Pr, V.dats (l.flatMap fun p => [vi p.1, vi p.2]) = true
 | [] => rfl
 | a :: l => by show (V.dat (vi a.1) && (V.dat (vi a.2) && V.dats (l.flatMap fun p => [vi p.1, vi p.2]))) = true;rw [U3 l]; rfl
theorem Og : ∀ l : List Pr, lu (l.map prV) = true
 | [] => rfl
 | a :: l => by simp only [List.map_cons, lu, Og l, V.fit, V.vc]; rfl
theorem gE0 {h r : H} : (h ++ r)[h.length]? = r[0]? := by rw [List.getElem?_append_right (Nat.le_refl _), Nat.sub_self]
theorem gE {h r : H} {k : Nat} : (h ++ r)[h.length + k]? = r[k]? := by rw [List.getElem?_append_right (Nat.le_add_right _ _), Nat.add_sub_cancel_left]
theorem gS0 {h r : H} {x : O} : (h ++ r).set h.length x = h ++ r.set 0 x := by rw [List.set_append_right _ _ (Nat.le_refl _), Nat.sub_self]
theorem gS {h r : H} {k : Nat} {x : O} : (h ++ r).set (h.length + k) x = h ++ r.set k x := by rw [List.set_append_right _ _ (Nat.le_add_right _ _), Nat.add_sub_cancel_left]
theorem neb {h : H} {a b : Nat} : (h.length + a == h.length + b) = (a == b) := by rw [Bool.eq_iff_iff]; simp
theorem ZB {h : H} {b : Nat} : (h.length == h.length + (b + 1)) = false := by simp
theorem nK {e : E} {h : H} {id len cap : Nat} {l : List Pr} (hc : h[id]? = some (.cells (l.flatMap fun p => [vi p.1, vi p.2]))) (hl : len = l.length) : aG e h (.ls id 2 0 len cap) (prs l) :=
 aG.ls hc (aC.dat (U3 l)) (U2 l) (WF l) (by simpa using hl)
theorem KA {h : H} {R : AEnd → H → (Nat → Bool) → Prop} (hr : R (.ret .nils) h (fun _ => false)) : ah TE 159 [.nils] h R := by refine ay Tryz.func159 rfl (by simp [nts]) (vm ?_);simp only [wq.1, seval, Tryz.results159];exact hr
theorem Cf {h : H} {n1 : Int} {nx ini : V} {R : AEnd → H → (Nat → Bool) → Prop} (h1 : nx.one = true) (h2 : ini.one = true) (hf1 : nx.fit = true) (hf2 : ini.fit = true)
 (hr : R (.ret (.lp (h.length + 2) 0)) (h ++ [.cells [vi n1, nx, ini, .nils, .nils], .map [] [], .cells [vi n1, nx, ini, .nils, .nils, .lm (h.length + 1), .nils]]) (fun _ => false)) :
 ah TE 129 [.agg [vi n1, nx, ini, .nils, .nils]] h R := by
 have hM : maxLen = 9223372036854775807 := rfl;refine ay Tryz.func129 rfl (by simp [nts]) (vm ?_);simp only [wq.1, seval, Tryz.results129, gE0, List.append_assoc];refine KA ?_;simp only [wq.1, seval, gE0, gE, gS];refine aA (fun m f h' => f.t 3 = .lp (h.length + 2) 0 ∧ f.t 21 = vi 0 ∧ f.t 22 = vi 0 ∧ f.d = [] ∧ f.k = (fun _ => false) ∧ h' = h ++ [.cells [vi n1, nx, ini, .nils, .nils], .map [] [], .cells [vi n1, nx, ini, .nils, .nils, .lm (h.length + 1), .nils]]) 0 ⟨by simp only [wq.1, seval], by simp only [wq.1, seval], by simp only [wq.1, ↓reduceIte], by simp only [wq.1], by simp only [wq.1], rfl⟩ ?_;rintro m f h' ⟨k3, k21, k22, hd, hk, rfl⟩;refine vm ?_;simp only [wq.1, seval, k3, k21, k22, hd];rw [hk];exact hr
def gG (n : Nat) : Cl := (List.range n).map fun i : Nat => 2 * (i : Int)
theorem qQ (n : Nat) : gG (n + 1) = gG n ++ [2 * (n : Int)] := by unfold gG; rw [List.range_succ, List.map_append]; rfl
theorem eF (n : Nat) : (gG n).length = n := by simp [gG]
def U4 : Plan := .take 0 <| .take 2 <| .take 4 <| .alt 1 (.alt 3 (.one 5 <| .one 6 <| .one 7 <| .one 8 <| .take 9 <| .fin) (.one 5 (.alt 3 (.one 6 <| .one 7 <| .one 8 <| .take 9 <| .fin) (.one 6 (.one 3 <| .one 7 <| .one 8 <| .take 9 <| .fin))))) (.alt 3 (.alt 1 (.one 5 <| .one 6 <| .one 7 <| .one 8 <| .take 9 <| .fin) (.one 5 (.alt 1 (.one 6 <| .one 7 <| .one 8 <| .take 9 <| .fin) (.one 6 (.one 1 <| .one 7 <| .one 8 <| .take 9 <| .fin))))) (.one 5 (.alt 1 (.alt 3 (.one 6 <| .one 7 <| .one 8 <| .take 9 <| .fin) (.one 6 (.one 3 <| .one 7 <| .one 8 <| .take 9 <| .fin))) (.alt 3 (.alt 1 (.one 6 <| .one 7 <| .one 8 <| .take 9 <| .fin) (.one 6 (.one 1 <| .one 7 <| .one 8 <| .take 9 <| .fin))) (.one 6 (.alt 1 (.one 3 <| .one 7 <| .one 8 <| .take 9 <| .fin) (.one 3 (.one 1 <| .one 7 <| .one 8 <| .take 9 <| .fin))))))))
theorem uQ {h : H} (hcd : dE h) {g : Gr} (hg : g.chk = 0) {R : AEnd → H → (Nat → Bool) → Prop}
 (hr : R (.ret (.lp (h.length + 4) 0)) (h ++ [.cells [vi g.ins, aF g.next, aF g.init, prs g.ands, aF g.outs], .cells (g.init.map vi), .cells [vi g.ins, aF g.next, .ls (h.length + 1) 1 0 g.init.length g.init.length, .nils, .nils], .map [] [], .cells [vi g.ins, aF g.next, .ls (h.length + 1) 1 0 g.init.length g.init.length, .ls (h.length + 5) 2 0 0 0, .nils, .lm (h.length + 3), .ls (h.length + 6) 1 0 g.first.toNat g.first.toNat], .cells [], .cells ((gG g.first.toNat).map vi)]) (fun _ => false)) :
 ah TE 80 [.agg [vi g.ins, aF g.next, aF g.init, prs g.ands, aF g.outs]] h R := by
 have hM : maxLen = 9223372036854775807 := rfl;obtain ⟨_, i0, i1, i2, i3, i4, i5⟩ := bQ hg;obtain ⟨r1, r2, r3, r4⟩ := cO i4;have hcl := Kz g.init (by omega);refine ah.fresh ?_;refine ay Tryz.func80 rfl (by simp [nts]) ?_;have hfst := jQ g (by omega) (by omega) (by omega);obtain ⟨fn, hfn⟩ : ∃ fn : Nat, g.first = fn := ⟨g.first.toNat, by have : g.first = 1 + g.ins + g.next.length := rfl; omega⟩
 have hfl : fn ≤ 4001 := by have : g.first = 1 + g.ins + g.next.length := rfl; omega
 rw [hfn, Int.toNat_natCast] at hr;rw [hfn] at hfst;have dvi : ∀ p, V.drops p (g.init.map vi) = g.init.map vi := fun p => aQ _;refine ag (vm ?_);simp only [wq.1, Nat.reduceLT, Tryz.results80];refine ag (bg mixed U4 (fun f' h' => f'.t 1 = .lp h.length 0 ∧ f'.t 3 = .lp (h.length + 4) 0 ∧ f'.d = [] ∧ (∀ j, j < h.length → f'.k j = false) ∧ h' = h ++ [.cells [vi g.ins, aF g.next, aF g.init, prs g.ands, aF g.outs], .cells (g.init.map vi), .cells [vi g.ins, aF g.next, .ls (h.length + 1) 1 0 g.init.length g.init.length, .nils, .nils], .map [] [], .cells [vi g.ins, aF g.next, .ls (h.length + 1) 1 0 g.init.length g.init.length, .nils, .nils, .lm (h.length + 3), .nils]]) (by decide +kernel) (by decide +kernel) ?_ ?_)
 ·simp only [wq.1, seval, U4, gE0]
  repeat' apply And.intro
  all_goals
   refine nH hcl rfl (uC _) ?_;simp only [wq.1, seval, gE0, List.append_assoc]
   repeat' apply And.intro
  all_goals
   refine Cf rfl rfl rfl rfl ?_;simp only [wq.1, seval, List.append_assoc]
 ·rintro f h' ⟨k1, k3, hd, hk, rfl⟩;show awp _ _ _ _ _ _ _;refine iL ?_;refine iL ?_;simp only [wq.1, List.append_assoc];have hle : HLe (h ++ [.cells [vi g.ins, aF g.next, aF g.init, prs g.ands, aF g.outs], .cells (g.init.map vi), .cells [vi g.ins, aF g.next, .ls (h.length + 1) 1 0 g.init.length g.init.length, .nils, .nils], .map [] [], .cells [vi g.ins, aF g.next, .ls (h.length + 1) 1 0 g.init.length g.init.length, .nils, .nils, .lm (h.length + 3), .nils], .cells [], .cells []]) (h ++ [.cells [vi g.ins, aF g.next, aF g.init, prs g.ands, aF g.outs], .cells (g.init.map vi), .cells [vi g.ins, aF g.next, .ls (h.length + 1) 1 0 g.init.length g.init.length, .nils, .nils], .map [] [], .cells [vi g.ins, aF g.next, .ls (h.length + 1) 1 0 g.init.length g.init.length, .ls (h.length + 5) 2 0 0 0, .nils, .lm (h.length + 3), .ls (h.length + 6) 1 0 0 0], .cells [], .cells []]) := by
   have hv : iY [vi g.ins, aF g.next, .ls (h.length + 1) 1 0 g.init.length g.init.length, .nils, .nils, .lm (h.length + 3), .nils] [vi g.ins, aF g.next, .ls (h.length + 1) 1 0 g.init.length g.init.length, .ls (h.length + 5) 2 0 0 0, .nils, .lm (h.length + 3), .ls (h.length + 6) 1 0 0 0] := iY.cons (dB _) (iY.cons (dB _) (iY.cons (dB _) (iY.cons eP (iY.cons (dB _) (iY.cons (dB _) (iY.cons eP (pI _)))))));have := HLe.set (h := h ++ [.cells [vi g.ins, aF g.next, aF g.init, prs g.ands, aF g.outs], .cells (g.init.map vi), .cells [vi g.ins, aF g.next, .ls (h.length + 1) 1 0 g.init.length g.init.length, .nils, .nils], .map [] [], .cells [vi g.ins, aF g.next, .ls (h.length + 1) 1 0 g.init.length g.init.length, .nils, .nils, .lm (h.length + 3), .nils], .cells [], .cells []]) (i := h.length + 4) (o' := .cells [vi g.ins, aF g.next, .ls (h.length + 1) 1 0 g.init.length g.init.length, .ls (h.length + 5) 2 0 0 0, .nils, .lm (h.length + 3), .ls (h.length + 6) 1 0 0 0]) (o := .cells [vi g.ins, aF g.next, .ls (h.length + 1) 1 0 g.init.length g.init.length, .nils, .nils, .lm (h.length + 3), .nils]) (gE.trans rfl) (OLe.cells (Nat.le_refl _) hv);rw [gS] at this;exact this
  refine EL hle ?_;refine vm ?_;simp only [wq.1, seval, gE0, k1];refine ah.ev hfst (by simp only [V.dats, V.dat, Bool.and_self]) ?_;simp only [wq.1, Nat.reduceLT];refine aA (fun m f h' => ∃ i, m + i = fn ∧ f.t 3 = .lp (h.length + 4) 0 ∧ f.t 15 = vi fn ∧ f.t 16 = vi i ∧ f.d = [] ∧ (∀ j, j < h.length → f.k j = false) ∧ h' = h ++ [.cells [vi g.ins, aF g.next, aF g.init, prs g.ands, aF g.outs], .cells (g.init.map vi), .cells [vi g.ins, aF g.next, .ls (h.length + 1) 1 0 g.init.length g.init.length, .nils, .nils], .map [] [], .cells [vi g.ins, aF g.next, .ls (h.length + 1) 1 0 g.init.length g.init.length, .ls (h.length + 5) 2 0 0 0, .nils, .lm (h.length + 3), .ls (h.length + 6) 1 0 i i], .cells [], .cells ((gG i).map vi)]) fn ⟨0, by omega, by simp only [wq.1, seval, k3], by simp only [wq.1, seval], by simp only [wq.1, ↓reduceIte]; rfl, by simp only [wq.1, hd], fun j hj => by (simp only [wq.1]); exact hk j hj, rfl⟩ ?_;rintro m f h' ⟨i, hm, k3, k15, k16, hd, hk, rfl⟩;have hel := eF i;have hcm := hcd.one (j := h.length + 6) (by omega);have dve : ∀ p, V.drops p ((gG i).map vi) = (gG i).map vi := fun p => aQ _;refine vm ?_;simp only [wq.1, seval, k15, k16];refine vcB.mk (fun hlt => ?_) (fun hlt => ?_)
  ·simp only [decide_eq_true_eq, Int.ofNat_lt] at hlt;have hw := ak (show i < maxLen by omega);have w2 : IntKind.i64.wrap (2 * (i : Int)) = 2 * (i : Int) := dD (by omega) (by omega);simp only [wq.1, ↓reduceIte, Nat.reduceEqDiff, Nat.reduceLT, Nat.reduceAdd, Nat.reduceBEq, reduceCtorEq, Nat.reduceMul, gE, gS, k3, k16, hd, hw, w2, dvi, dve, hcm, neb];refine ⟨⟨rfl, by decide⟩, ⟨by omega, by omega, by omega⟩, .inl ⟨m - 1, by omega, i + 1, by omega, by simp only [wq.1, ↓reduceIte, Nat.reduceEqDiff, Nat.reduceLT, Nat.reduceLeDiff, Nat.reduceAdd, Nat.reduceSub, Int.reduceToNat, Nat.reduceDiv, Int.reduceLT, Int.reduceLE, Int.reduceNeg, Int.reduceBEq, Int.reduceBNe, Int.reduceAdd, Int.reduceSub, Nat.reduceBEq, reduceCtorEq, Nat.reduceMul, au, Tryz.results80, k3, neb, ZB], by simp only [wq.1, ↓reduceIte, Nat.reduceEqDiff, Nat.reduceLT, Nat.reduceLeDiff, Nat.reduceAdd, Nat.reduceSub, Int.reduceToNat, Nat.reduceDiv, Int.reduceLT, Int.reduceLE, Int.reduceNeg, Int.reduceBEq, Int.reduceBNe, Int.reduceAdd, Int.reduceSub, Nat.reduceBEq, reduceCtorEq, Nat.reduceMul, au, Tryz.results80, k15], by simp only [wq.1, ↓reduceIte, Nat.reduceEqDiff, Nat.reduceLT, Nat.reduceLeDiff, Nat.reduceAdd, Nat.reduceSub, Int.reduceToNat, Nat.reduceDiv, Int.reduceLT, Int.reduceLE, Int.reduceNeg, Int.reduceBEq, Int.reduceBNe, Int.reduceAdd, Int.reduceSub, Nat.reduceBEq, reduceCtorEq, Nat.reduceMul, au, Tryz.results80], by simp only [wq.1, ↓reduceIte, Nat.reduceEqDiff, Nat.reduceLT, Nat.reduceLeDiff, Nat.reduceAdd, Nat.reduceSub, Int.reduceToNat, Nat.reduceDiv, Int.reduceLT, Int.reduceLE, Int.reduceNeg, Int.reduceBEq, Int.reduceBNe, Int.reduceAdd, Int.reduceSub, Nat.reduceBEq, reduceCtorEq, Nat.reduceMul, au, Tryz.results80, hd], fun j hj => ?_, ?_⟩⟩
   ·simp only [wq.1, hk j hj];simp; omega
   ·rw [qQ, List.map_append]; rfl
  ·simp only [decide_eq_false_iff_not, Int.ofNat_lt] at hlt;have hi : i = fn := by omega
   subst hi;simp only [wq.1, seval, k3, hd];exact ⟨hk, hr⟩
abbrev fl (l : List Pr) : List V := l.flatMap fun p => [vi p.1, vi p.2]
def Fe (f : Int) (n : Nat) : List V := (List.range n).map fun i : Nat => vi (2 * (f + (i : Int)))
theorem Oh (f : Int) (n : Nat) : Fe f (n + 1) = Fe f n ++ [vi (2 * (f + (n : Int)))] := by unfold Fe; rw [List.range_succ, List.map_append]; rfl
theorem TK {f : Int} {n i : Nat} (h : i < n) (d : V) : (Fe f n).getD i d = vi (2 * (f + (i : Int))) := by simp [Fe, List.getD_eq_getElem?_getD, h]
abbrev bo (n1 : Int) (nx : Cl) (J k a la : Nat) (outs : V) (m c lc : Nat) : O := .cells [vi n1, aF nx, .ls J 1 0 k k, .ls a 2 0 la la, outs, .lm m, .ls c 1 0 lc lc]
def jd (f : Int) (A : List Pr) (p q : Int) : List Pr × Int :=
 if min p q = 0 ∨ xE (max p q) = min p q then (A, 0) else if min p q = 1 ∨ max p q = min p q then (A, max p q) else
  match A.findIdx? (· == (max p q, min p q)) with
  | some i => (A, 2 * (f + (i : Int)))
  | none => (A ++ [(max p q, min p q)], 2 * (f + (A.length : Int)))
theorem Ci (k : Pr) : ∀ (ks : List Pr), iH (.arr 2 3 (some .i64)) (prV k) (ks.map prV) = some (ks.findIdx? (· == k))
 | [] => rfl
 | x :: ks => by
  have hk : keq (.arr 2 3 (some .i64)) (prV k) (prV x) = some (x == k) := by
   show (if 2 = 2 ∧ IntKind.i64 = .i64 ∧ IntKind.i64 = .i64 ∧ IntKind.i64 = .i64 ∧ IntKind.i64 = .i64 then some ((k.1 == x.1) && (k.2 == x.2)) else none) = _;rw [if_pos ⟨rfl, rfl, rfl, rfl, rfl⟩]
   congr 1
   rw [Bool.eq_iff_iff];simp only [Bool.and_eq_true, beq_iff_eq];constructor
   ·rintro ⟨h1, h2⟩; exact Prod.ext h1.symm h2.symm
   ·rintro rfl; exact ⟨rfl, rfl⟩
  rw [List.map_cons, iH, hk, List.findIdx?_cons];cases hx : x == k with
  | true => rfl
  | false => rw [Ci k ks];cases ks.findIdx? (· == k) <;> rfl
theorem TL {h : H} {D : Nat → Bool} {b : Nat} {x : O} (hd : ∀ i o, h[i]? = some o → i ≠ b → o.drop D = o) : (h.map (O.drop D)).set b x = h.set b x := by
 refine List.ext_getElem? fun i => ?_;by_cases hi : b = i
 ·subst hi;by_cases hl : b < h.length
  ·rw [List.getElem?_set_self (by simpa using hl), List.getElem?_set_self hl]
  ·rw [List.getElem?_eq_none (by simp; omega), List.getElem?_eq_none (by simp; omega)]
 ·rw [List.getElem?_set_ne hi, List.getElem?_set_ne hi, List.getElem?_map];cases ho : h[i]? with
  | none => rfl
  | some o => simp [hd i o ho (Ne.symm hi)]
def Gq : Plan := .take 0 <| .take 1 <| .take 2 <| .take 5 <| .take 6 <| .take 7 <| .take 8 <| .alt 3 (.alt 4 (.one 9 <| .one 10 <| .one 11 <| .one 12 <| .take 13 <| .fin) (.one 9 (.alt 4 (.one 10 <| .one 11 <| .one 12 <| .take 13 <| .fin) (.one 10 (.one 4 <| .one 11 <| .one 12 <| .take 13 <| .fin))))) (.one 9 (.alt 3 (.alt 4 (.one 10 <| .one 11 <| .one 12 <| .take 13 <| .fin) (.one 10 (.one 4 <| .one 11 <| .one 12 <| .take 13 <| .fin))) (.one 10 (.one 3 <| .one 4 <| .one 11 <| .one 12 <| .take 13 <| .fin))))
def Gs : Plan := .take 0 <| .take 1 <| .take 2 <| .take 3 <| .take 4 <| .alt 5 (.one 6 <| .one 7 <| .one 8 <| .take 9 <| .take 10 <| .take 11 <| .one 12 <| .fin) (.one 6 (.alt 5 (.one 7 <| .one 8 <| .take 9 <| .take 10 <| .take 11 <| .one 12 <| .fin) (.one 7 (.one 5 <| .one 8 <| .take 9 <| .take 10 <| .take 11 <| .one 12 <| .fin))))
def Gt : Plan := .take 0 <| .take 1 <| .take 2 <| .take 5 <| .alt 3 (.one 4 <| .one 6 <| .fin) (.one 4 (.one 3 <| .one 6 <| .fin))
set_option maxHeartbeats 8000000 in
theorem Cj {h : H} {b a J m c lc : Nat} {n1 : Int} {nx ini : Cl} {A : List Pr} {f0 : Int} {p q : Int} (hf : f0 = 1 + n1 + nx.length) (i0 : 0 ≤ n1) (i1 : n1 ≤ 4000) (i2 : nx.length ≤ 4000) (i3 : ini.length ≤ 4000) (i4 : A.length ≤ 4000)
 (p0 : 0 ≤ p) (p1 : p ≤ 100000) (q0 : 0 ≤ q) (q1 : q ≤ 100000)
 (hb : h[b]? = some (bo n1 nx J ini.length a A.length .nils m c lc)) (hj : h[J]? = some (.cells (ini.map vi))) (ha : h[a]? = some (.cells (fl A))) (hm : h[m]? = some (.map (A.map prV) (Fe f0 A.length)))
 (hdr : ∀ i o, h[i]? = some o → i ≠ b → o.drop (· == a) = o) (hba : b ≠ a) (hca : c ≠ a) (hJa : J ≠ a) {R : AEnd → H → (Nat → Bool) → Prop}
 (hr : ∀ X, R (.ret (vi (jd f0 A p q).2)) (((h.set b (bo n1 nx J ini.length a (jd f0 A p q).1.length .nils m c lc)).set a (.cells (fl (jd f0 A p q).1))).set m (.map ((jd f0 A p q).1.map prV) (Fe f0 (jd f0 A p q).1.length)) ++ X) (fun i => i == a)) :
 ah TE 81 [.lp b 0, vi p, vi q] h R := by
 have hM : maxLen = 9223372036854775807 := rfl;have same : ((h.set b (bo n1 nx J ini.length a A.length .nils m c lc)).set a (.cells (fl A))).set m (.map (A.map prV) (Fe f0 A.length)) = h := by
  have s1 : ∀ {i : Nat} {o : O}, h[i]? = some o → h.set i o = h := fun {i o} hi => by obtain ⟨hl, rfl⟩ := List.getElem?_eq_some_iff.1 hi;exact List.set_getElem_self hl
  rw [s1 hb, s1 ha, s1 hm]
 obtain ⟨P, hP⟩ : ∃ P, P = max p q := ⟨_, rfl⟩;obtain ⟨Q, hQ⟩ : ∃ Q, Q = min p q := ⟨_, rfl⟩;have bP : 0 ≤ P ∧ P ≤ 100000 ∧ 0 ≤ Q ∧ Q ≤ 100000 := by omega
 have hxo := Fb (a := P) (by omega) (by omega);have hav : jd f0 A p q = if Q = 0 ∨ xE P = Q then (A, 0) else if Q = 1 ∨ P = Q then (A, P) else match A.findIdx? (· == (P, Q)) with
  | some i => (A, 2 * (f0 + (i : Int)))
  | none => (A ++ [(P, Q)], 2 * (f0 + (A.length : Int))) := by rw [hP, hQ]; rfl
 obtain ⟨r, hrv⟩ : ∃ r, r = jd f0 A p q := ⟨_, rfl⟩;rw [← hrv] at hr hav;have early : ∀ v, r = (A, v) → ∀ X, R (.ret (vi v)) (h ++ X) (fun i => i == a) := fun v hv X => by
  have := hr X;rw [hv] at this;simp only at this
  rwa [same] at this
 refine ah.kp (fun i => i == a) ?_;refine ay Tryz.func81 rfl (by simp [nts]) ?_;refine ag (vm ?_);simp only [wq.1, Nat.reduceLT, Tryz.results81];refine ag (vm ?_);simp only [wq.1, seval, mx, mn];rw [← hP, ← hQ];cases e1 : Q == 0 with
 | true => refine ag (vm ?_);simp only [wq.1, seval, e1];have := early 0 (by rw [hav, if_pos (.inl (by simpa using e1))]) [];rw [List.append_nil] at this;exact this
 | false =>
 cases e2 : xE P == Q with
 | true => refine ag (vm ?_);simp only [wq.1, seval, e1, e2, hxo];have := early 0 (by rw [hav, if_pos (.inr (by simpa using e2))]) [];rw [List.append_nil] at this;exact this
 | false =>
 have n1' : ¬ (Q = 0 ∨ xE P = Q) := by
  simp only [beq_eq_false_iff_ne, ne_eq] at e1 e2;rintro (h | h)
  ·exact e1 h
  ·exact e2 h
 rw [if_neg n1'] at hav;cases e3 : Q == 1 with
 | true => refine ag (vm ?_);simp only [wq.1, seval, e1, e2, e3, hxo];have := early P (by rw [hav, if_pos (.inl (by simpa using e3))]) [];rw [List.append_nil] at this;exact this
 | false =>
 cases e4 : P == Q with
 | true => refine ag (vm ?_);simp only [wq.1, seval, e1, e2, e3, e4, hxo];have := early P (by rw [hav, if_pos (.inr (by simpa using e4))]) [];rw [List.append_nil] at this;exact this
 | false =>
 have n2' : ¬ (Q = 1 ∨ P = Q) := by
  simp only [beq_eq_false_iff_ne, ne_eq] at e3 e4;rintro (h | h)
  ·exact e3 h
  ·exact e4 h
 rw [if_neg n2'] at hav;have lt : ∀ {i : Nat} {o : O}, h[i]? = some o → i < h.length := fun hi => (List.getElem?_eq_some_iff.1 hi).1;have lb := lt hb;have la := lt ha;have lj := lt hj;have lm := lt hm;have ap : ∀ {i : Nat} {o : O} (X : H), h[i]? = some o → (h ++ X)[i]? = some o := fun X hi => by rw [List.getElem?_append_left (lt hi)]; exact hi
 have hbX := ap [.cells [vi P, vi Q]] hb;have haX := ap [.cells [vi P, vi Q]] ha;have hjX := ap [.cells [vi P, vi Q]] hj;have hmX := ap [.cells [vi P, vi Q]] hm;have hfi := Ci (P, Q) A;refine ag (vm ?_);simp only [wq.1, seval, e1, e2, e3, e4, hxo];refine ag (vm ?_);simp only [wq.1, seval, gE0, gS0];cases hfx : A.findIdx? (· == (P, Q)) with
 | some i => rw [hfx] at hav hfi;have hi : i < A.length := (List.findIdx?_eq_some_iff_getElem.1 hfx).1;refine ag (vm ?_);simp only [wq.1, seval, gE0, hbX, hmX, wz, hfi, K.keyOk, TK hi];refine ⟨by decide +kernel, ?_⟩;exact early _ hav [.cells [vi P, vi Q]]
 | none =>
  rw [hfx] at hav hfi;have hge := fun (h' : H) (h1 : h'[J]? = some (.cells (ini.map vi))) (h2 : h'[a]? = some (.cells (fl A))) => (aG.agg (aC.cons (aG.dat rfl) (aC.cons (aG.dat ZA) (aC.cons (bK h1 rfl) (aC.cons (nK h2 rfl) (aC.cons aG.nils aC.nil))))) : aG TE h' (.agg [vi n1, aF nx, .ls J 1 0 ini.length ini.length, .ls a 2 0 A.length A.length, .nils]) (Gr.v ⟨n1, nx, ini, A, []⟩));have hfst := jQ ⟨n1, nx, ini, A, []⟩ (by show _ ≤ n1; omega) (by show n1 ≤ _; omega) (by show nx.length ≤ _; omega);have hfe : Gr.first ⟨n1, nx, ini, A, []⟩ = f0 := hf.symm
  rw [hfe] at hfst;have w1 : IntKind.i64.wrap (f0 + (A.length : Int)) = f0 + A.length := dD (by omega) (by omega);have w2 : IntKind.i64.wrap (2 * (f0 + (A.length : Int))) = 2 * (f0 + A.length) := dD (by omega) (by omega);refine ag (vm ?_);simp only [wq.1, seval, gE0, hbX, hmX, wz, hfi, K.keyOk];refine ⟨by decide +kernel, ?_⟩;refine ag (bg mixed Gq (fun f' h' => f'.t 0 = .lp b 0 ∧ f'.t 7 = .lp h.length 0 ∧ f'.t 10 = vi (2 * (f0 + A.length)) ∧ f'.d = [] ∧ (∀ j, f'.k j = false) ∧ h' = h ++ [.cells [vi P, vi Q]]) (by decide +kernel) (by decide +kernel) ?_ ?_)
  ·simp only [wq.1, seval, Gq, hbX]
   repeat' apply And.intro
   all_goals
    refine ah.lend hfst (aC.cons (hge _ hjX haX) aC.nil) rfl ?_;simp only [wq.1, seval, hbX, w1, w2]
  ·rintro f h' ⟨k0, k7, k10, hd, hk, rfl⟩;show awp _ _ _ _ _ _ _;have hne0 : (h.length == a) = false := by simp; omega
   have hma : m ≠ a := fun e => by rw [e, ha] at hm; cases hm
   have hba' : (b == a) = false := by simpa using hba
   have hbD : ∀ (Y : H) (X : O), ((h.map (O.drop (fun x => x == a)) ++ Y).set a X)[b]? = some (.cells [vi n1, aF nx, .ls J 1 0 ini.length ini.length, .any, .nils, .lm m, .ls c 1 0 lc lc]) := fun Y X => by rw [List.getElem?_set_ne (Ne.symm hba), List.getElem?_append_left (by simpa using lb), List.getElem?_map, hb];simp only [wq.1, ↓reduceIte, O.drop, V.drops, V.drop, show (J == a) = false by simpa using hJa, show (c == a) = false by simpa using hca, show (m == a) = false by simpa using hma]
   refine ag (bg mixed Gs (fun f' h' => f'.t 0 = .lp b 0 ∧ f'.t 7 = .lp h.length 0 ∧ f'.t 10 = vi (2 * (f0 + A.length)) ∧ f'.d = [] ∧ (∀ j, f'.k j = true → j = a) ∧ h' = ((h.set b (bo n1 nx J ini.length a (A.length + 1) .nils m c lc)).set a (.cells (fl (A ++ [(P, Q)])))) ++ [.cells [vi P, vi Q]]) (by decide +kernel) (by decide +kernel) ?_ ?_)
   ·simp only [wq.1, seval, Gs, gE0, hbX, haX, k0, k7, k10, hd, hne0, hba']
    repeat' apply And.intro
    all_goals first
     | rfl
     | decide
     | exact Ce A
     | omega
     | (show _ ≤ _; omega)
     | skip
    all_goals
     rw [hbD];refine ⟨by simp, fun j hj => ?_, ?_⟩
     ·rw [hk j, Bool.false_or, beq_iff_eq] at hj;exact hj
     ·have e1 : V.drops (fun x => x == a) (fl A) ++ V.drops (fun x => x == a) (List.flatMap V.vc [V.agg [vi P, vi Q]]) = fl (A ++ [(P, Q)]) := by rw [Yu];show fl A ++ [vi P, vi Q] = fl (A ++ [(P, Q)]);simp only [fl, List.flatMap_append, List.flatMap_cons, List.flatMap_nil, List.append_nil]
      rw [e1, List.set_append_left _ _ (by simpa using la), List.set_append_left _ _ (by simpa using lb), List.set_comm _ _ (Ne.symm hba), TL hdr];rfl
   ·rintro f h' ⟨k0, k7, k10, hd, hk, rfl⟩;show awp _ _ _ _ _ _ _;obtain ⟨A', hA'⟩ : ∃ A', A' = A ++ [(P, Q)] := ⟨_, rfl⟩;have lA' : A'.length = A.length + 1 := by rw [hA']; simp
    rw [← hA'] at hav ⊢;have j1 : ((h.set b (bo n1 nx J ini.length a (A.length + 1) .nils m c lc)).set a (.cells (fl A')) ++ [.cells [vi P, vi Q]])[b]? = some (bo n1 nx J ini.length a (A.length + 1) .nils m c lc) := by
     rw [List.getElem?_append_left (by simpa using lb), List.getElem?_set_ne (Ne.symm hba), List.getElem?_set_self lb]
    have hmb : m ≠ b := fun e => by rw [e, hb] at hm; cases hm
    have j2 : ((h.set b (bo n1 nx J ini.length a (A.length + 1) .nils m c lc)).set a (.cells (fl A')) ++ [.cells [vi P, vi Q]])[m]? = some (.map (A.map prV) (Fe f0 A.length)) := by rw [List.getElem?_append_left (by simpa using lm), List.getElem?_set_ne (Ne.symm hma), List.getElem?_set_ne (Ne.symm hmb)]; exact hm
    have j3 : ((h.set b (bo n1 nx J ini.length a (A.length + 1) .nils m c lc)).set a (.cells (fl A')) ++ [.cells [vi P, vi Q]])[h.length]? = some (.cells [vi P, vi Q]) := by rw [show h.length = ((h.set b (bo n1 nx J ini.length a (A.length + 1) .nils m c lc)).set a (.cells (fl A'))).length by simp, List.getElem?_append_right (Nat.le_refl _), Nat.sub_self];rfl
    refine ag (bg mixed Gt (fun f' h' => f'.t 10 = vi (2 * (f0 + A.length)) ∧ f'.d = [] ∧ (∀ j, f'.k j = true → j = a) ∧ h' = ((h.set b (bo n1 nx J ini.length a (A.length + 1) .nils m c lc)).set a (.cells (fl A'))).set m (.map (A'.map prV) (Fe f0 A'.length)) ++ [.cells [vi P, vi Q]]) (by decide +kernel) (by decide +kernel) ?_ ?_)
    ·simp only [wq.1, seval, Gt, k0, k7, k10, hd, j1, j2, j3, Ld, hfi, K.keyOk]
     repeat' apply And.intro
     all_goals first
      | exact hk
      | (rw [List.set_append_left _ _ (by simpa using lm), hA', List.length_append, List.length_singleton, Oh, List.map_append]
         rfl)
    ·rintro f h' ⟨k10, hd, hk, rfl⟩;show awp _ _ _ _ _ _ _;refine vm ?_;simp only [wq.1, seval, k10, hd];have := hr [.cells [vi P, vi Q]];rw [hav] at this;simp only [lA'] at this ⊢;exact ⟨fun i hi => by simpa using hk i hi, this⟩
end Go.Proofs.YtfcpapokknfeeaaGreatDoor
