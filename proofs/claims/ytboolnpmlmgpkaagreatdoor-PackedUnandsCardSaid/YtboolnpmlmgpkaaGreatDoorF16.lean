/- Lemmas for the statement of this claim, part F16: they hold with no conditions but those that each one names. -/
import Derived.Test.YtboolnpmlmgpkaaGreatDoorF14
import Derived.Test.YtboolnpmlmgpkaaGreatDoorF12
import Derived.Test.YtboolnpmlmgpkaaGreatDoorA9
import Derived.Test.YtboolnpmlmgpkaaGreatDoorF09
import Derived.Test.YtboolnpmlmgpkaaGreatDoorA11
import Derived.Test.YtboolnpmlmgpkaaGreatDoorF15
import Derived.Test.YtboolnpmlmgpkaaGreatDoorF04
import Derived.Test.YtboolnpmlmgpkaaGreatDoorF06
set_option linter.unusedVariables false
set_option maxRecDepth 20000
set_option linter.unusedSimpArgs false
set_option linter.unnecessarySimpa false
namespace Go.Proofs.YtboolnpmlmgpkaaGreatDoor
open Go Go.Proofs Go.Abs
theorem znt (g : Gr) : Ev TE 83 [g.v] (.fn (.func 154) [] [.ip g.v]) := by
 unfold Gr.v
 refine zh Tryz.func83 rfl (by simp [nts]) (vm ?_)
 simp only [wq.down, seval, Tryz.results83]
 refine zo.fn zl.nil (zl.cons (zo.lp rfl (zl.dat (by simp only [V.dats, V.dat, Bool.and_self])) rfl (by simp only [V.dats, V.dat, Bool.and_self]) (by simp [V.vc]) rfl) zl.nil)
set_option maxHeartbeats 4000000 in
theorem zhe {g : Gr} (hg : GP g) (hi0 : 0 ≤ g.ins) {id : Nat} {h : H} {I : Nat → H → (Nat → Bool) → Prop} (h0 : I 0 h (fun _ => false))
 (hy : ∀ i h' k (hi : i < g.ands.length), k id = false → I i h' k → zqJ TE id [vi (2 * (g.first + (i : Int)) - g.ands[i].1), vi (g.ands[i].1 - g.ands[i].2)] (h' ++ [.cells [vi g.ands[i].1, vi g.ands[i].2]]) fun j h'' p => j = none ∧ I (i + 1) h'' (fun x => k x || p x)) :
 zb TE 154 [.yd id, .ip g.v] h fun ae h' p => p id = false ∧ (∃ w, ae = .ret w) ∧ I g.ands.length h' p := by
 have hM : maxLen = 9223372036854775807 := rfl
 have wf : g.first = 1 + g.ins + g.next.length := rfl
 have f0 := hg.f0
 have f1 := hg.f1
 have w1 : IntKind.i64.wrap (1 + g.ins) = 1 + g.ins := zJ (by omega) (by omega)
 have w2 : IntKind.i64.wrap (1 + g.ins + (g.next.length : Int)) = g.first := by rw [wf]; exact zJ (by omega) (by omega)
 have w3 : IntKind.i64.wrap (2 * g.first) = 2 * g.first := zJ (by omega) (by omega)
 unfold Gr.v
 refine zi Tryz.func154 rfl (by simp [nts]) (vm ?_)
 simp only [wq.down, seval, Tryz.results154, w1, w2, w3]
 refine zw (fun m f h => ∃ i, m + i = g.ands.length ∧ f.t 0 = .yd id ∧ f.t 1 = .ip (.agg [vi g.ins, zr g.next, zr g.init, prs g.ands, zr g.outs]) ∧ f.t 3 = vi (2 * g.first) ∧ f.t 15 = prs g.ands ∧ f.t 16 = vi g.ands.length ∧ f.t 17 = vi i ∧ f.d = [] ∧ f.k id = false ∧ I i h f.k) g.ands.length ⟨0, by simp, rfl, rfl, by simp only [wq.down, seval], by simp only [wq.down, seval], by simp only [wq.down, seval], rfl, rfl, rfl, h0⟩ ?_
 rintro m f h ⟨i, hm, t0, t1, t3, t15, t16, t17, hd, hk, hI⟩
 refine vm ?_
 simp only [wq.down, ↓reduceIte, Nat.reduceEqDiff, Nat.reduceLT, Nat.reduceLeDiff, Nat.reduceAdd, Nat.reduceSub, Int.reduceToNat, Nat.reduceDiv, Int.reduceLT, Int.reduceLE, Int.reduceNeg, Int.reduceBEq, Int.reduceBNe, Int.reduceAdd, Int.reduceSub, Nat.reduceBEq, reduceCtorEq, Nat.reduceMul, zg, Tryz.results154, t0, t1, t3, t15, t16, t17, hd]
 refine vcB.mk (fun hc => ?_) (fun hc => ?_)
 ·have hc : i < g.ands.length := by simp only [decide_eq_true_eq] at hc; omega
  obtain ⟨q1, q2, q3⟩ := hg.at_ i hc
  have w4 : IntKind.i64.wrap (2 * (i : Int)) = 2 * i := zJ (by omega) (by omega)
  have w5 : IntKind.i64.wrap (2 * g.first + 2 * (i : Int)) = 2 * (g.first + i) := by rw [zJ (by omega) (by omega)]; omega
  have w6 : IntKind.i64.wrap (2 * (g.first + (i : Int)) - g.ands[i].1) = 2 * (g.first + i) - g.ands[i].1 := zJ (by omega) (by omega)
  have w7 : IntKind.i64.wrap (g.ands[i].1 - g.ands[i].2) = g.ands[i].1 - g.ands[i].2 := zJ (by omega) (by omega)
  have hw := zm (show i < maxLen by omega)
  have hg2 := hy i h f.k hc hk hI
  obtain ⟨t, n', ps, asg, body, pend, hL, hsz, hps, hww⟩ := hg2
  simp only [wq.down, ↓reduceIte, Nat.reduceEqDiff, Nat.reduceLT, Nat.reduceLeDiff, Nat.reduceAdd, Nat.reduceSub, Int.reduceToNat, Nat.reduceDiv, Int.reduceLT, Int.reduceLE, Int.reduceNeg, Int.reduceBEq, Int.reduceBNe, Int.reduceAdd, Int.reduceSub, Nat.reduceBEq, reduceCtorEq, Nat.reduceMul, zg, Tryz.results154, t0, t1, t3, t15, t16, t17, hd, zeo hc, gE0, gS0, w4, w5, w6, w7, hL]
  refine ⟨⟨by omega, by omega⟩, by decide, by decide, by decide, ⟨by simpa using hsz, hps⟩, zbt hww ?_⟩
  rintro j h' p' hp' ⟨rfl, hS⟩
  refine ⟨by simp [zfO, hd], ?_⟩
  simp only [wq.down, seval, t17, Option.isNone_none, hw]
  exact .inl ⟨m - 1, by omega, i + 1, by omega, by simp only [wq.down, seval, t0, hp'], by simp only [wq.down, seval, t1], by simp only [wq.down, seval, t3], by simp only [wq.down, seval, t15], by simp only [wq.down, seval, t16], by simp only [wq.down, ↓reduceIte], by simp only [wq.down, hd], by simp only [wq.down, hk, hp'], by simp only [wq.down]; exact hS⟩
 ·have hi : i = g.ands.length := by simp only [decide_eq_false_iff_not] at hc; omega
  subst hi
  simp only [wq.down, hd]
  exact ⟨hk, ⟨_, rfl⟩, hI⟩
set_option maxHeartbeats 4000000 in
theorem znu (a b : List Pr) (ha : a.length ≤ 1000000) : Ev TE 95 [.agg [vi 0, zr [], zr [], prs a, zr []], .agg [vi 0, zr [], zr [], prs b, zr []]] (.bool (a == b)) := by
 have hM : maxLen = 9223372036854775807 := rfl
 have e1 := zpX [] []
 rw [show (([] : Cl) == []) = true from rfl] at e1
 refine zh Tryz.func95 rfl (by simp [nts]) ?_
 refine za (vm ?_)
 simp only [wq.down, seval, Tryz.results95]
 cases hl : ((a.length : Int) != (b.length : Int)) with
 | true =>
  have hne : (a == b) = false := by
   simp only [bne_iff_ne, ne_eq, Int.natCast_inj] at hl
   simp only [beq_eq_false_iff_ne, ne_eq]
   intro h
   exact hl (by rw [h])
  rw [hne]
  refine za (vm ?_)
  simp only [wq.down, seval]
  refine zb.ev e1 rfl ?_
  simp only [wq.down, seval]
  refine zb.ev e1 rfl ?_
  simp only [wq.down, seval]
  refine zb.ev e1 rfl ?_
  simp only [wq.down, seval, hl]
  exact zo.dat rfl
 | false =>
  have hl' : a.length = b.length := by
   have : (a.length : Int) = (b.length : Int) := by simpa using hl
   omega
  refine za (vm ?_)
  simp only [wq.down, seval]
  refine zb.ev e1 rfl ?_
  simp only [wq.down, seval]
  refine zb.ev e1 rfl ?_
  simp only [wq.down, seval]
  refine zb.ev e1 rfl ?_
  simp only [wq.down, seval, hl]
  refine za (vm ?_)
  simp only [wq.down, Nat.reduceLT]
  refine zw (fun m f h => ∃ i, m + i = a.length ∧ f.t 2 = .lp 0 0 ∧ f.t 3 = .lp 1 0 ∧ f.t 5 = vi i ∧ f.d = [] ∧ h = [.cells [vi 0, zr [], zr [], prs a, zr []], .cells [vi 0, zr [], zr [], prs b, zr []]] ∧ a.take i = b.take i) a.length ⟨0, by simp, by simp only [wq.down, seval], by simp only [wq.down, seval], rfl, by simp only [wq.down], rfl, by simp⟩ ?_
  rintro m f h ⟨i, hm, t2, t3, t5, hd, rfl, hall⟩
  refine za (vm ?_)
  simp only [wq.down, seval, t2, t5]
  refine vcB.mk (fun hc => ?_) (fun hc => ?_)
  ·simp only [decide_eq_true_eq, Int.ofNat_lt] at hc
   have hcb : i < b.length := by omega
   have hg := zeo hc V.any
   have hgb := zeo hcb V.any
   have hw := zm (show i < maxLen by omega)
   simp only [wq.down]
   refine za (zu ?_)
   refine za (vm ?_)
   simp only [wq.down, seval, t2, t3, t5, hg, hgb]
   refine ⟨by decide +kernel, ⟨by omega, by omega⟩, ⟨by omega, by omega⟩, zmS, ?_⟩
   have hbe : ([a[i].1, a[i].2] == [b[i].1, b[i].2]) = (a[i] == b[i]) := by
    rw [Bool.eq_iff_iff]
    simp only [beq_iff_eq, List.cons.injEq, and_true]
    constructor
    ·rintro ⟨h1, h2⟩; exact Prod.ext h1 h2
    ·intro h; rw [h]; exact ⟨rfl, rfl⟩
   cases hq : a[i] == b[i] with
   | true =>
    rw [hq] at hbe
    refine zT (b := false) (by simp only [wq.down, ↓reduceIte]) (by simp only [wq.down, ↓reduceIte, hbe]) (fun h => by cases h) (fun _ => ?_)
    refine vm ?_
    simp only [wq.down]
    refine vm ?_
    simp only [wq.down, seval, t5, hw]
    exact .inl ⟨m - 1, by omega, i + 1, by omega, by simp only [wq.down, seval, t2], by simp only [wq.down, seval, t3], rfl, by simp only [wq.down, hd], rfl, by rw [List.take_add_one, List.take_add_one, List.getElem?_eq_getElem hc, List.getElem?_eq_getElem hcb, hall, eq_of_beq hq]⟩
   | false =>
    rw [hq] at hbe
    have hne : (a == b) = false := by
     simp only [beq_eq_false_iff_ne, ne_eq] at hq ⊢
     intro h
     exact hq (by simp only [h])
    rw [hne]
    refine zT (b := true) (by simp only [wq.down, ↓reduceIte]) (by simp only [wq.down, ↓reduceIte, hbe]) (fun _ => ?_) (fun h => by cases h)
    refine vm ?_
    simp only [wq.down, seval, hd]
    exact zo.dat rfl
  ·simp only [decide_eq_false_iff_not, Int.ofNat_lt] at hc
   have : i = a.length := by omega
   subst this
   rw [List.take_length, hl', List.take_length] at hall
   rw [show (a == b) = true by rw [hall]; exact beq_self_eq_true b]
   simp only [wq.down]
   refine vm ?_
   simp only [wq.down, seval, hd]
   exact zo.dat rfl
theorem zkm (a b : List Pr) (ha : a.length ≤ 1000000) : Ev TE 32 [prs a, prs b] (.bool (a == b)) := by
 have e1 := znu a b ha
 refine zh Tryz.func32 rfl (by simp [nts]) (vm ?_)
 simp only [wq.down, seval, Tryz.results32]
 refine zb.ev (e1.les (zaq.cons (zjc (zaq.cons (VLe.refl _) (zaq.cons zal (zaq.cons zal (zaq.cons (VLe.refl _) (zaq.cons zal zaq.nil)))))) (zaq.cons (zjc (zaq.cons (VLe.refl _) (zaq.cons zal (zaq.cons zal (zaq.cons (VLe.refl _) (zaq.cons zal zaq.nil)))))) zaq.nil))) (by simp only [V.dats, V.dat, Bool.and_self]) ?_
 simp only [wq.down, seval]
 exact zo.dat rfl
theorem zhf (l : Cl) (hne : l ≠ []) (hl : l.length ≤ 1000) (hn : ∀ n ∈ l, 0 ≤ n ∧ n ≤ 2147483647) : Ev TE 80 [zr l] (.str (lnT l)) := by
 have hM : maxLen = 9223372036854775807 := rfl
 refine zh Tryz.func80 rfl (by simp [nts]) ?_
 refine za (vm ?_)
 simp only [wq.down, seval, Tryz.results80]
 refine za (vm ?_)
 simp only [wq.down, Nat.reduceLT]
 refine zf8 3 1 (by simp only [wq.down, ↓reduceIte]) ?_
 refine za ?_
 refine vm ?_
 simp only [wq.down, seval]
 refine zw (fun m f h => ∃ (i : Nat) (cs : List V), m + i = l.length ∧ f.t 3 = .ls 0 1 0 i i ∧ f.t 6 = zr l ∧ f.t 7 = vi l.length ∧ f.t 8 = vi i ∧ f.d = [] ∧ cs = ((l.take i).map Lib.itoa).map V.str ∧ h = [.cells cs]) l.length ⟨0, [], by simp, by simp only [wq.down, seval], by simp only [wq.down, seval], by simp only [wq.down, seval], rfl, by simp only [wq.down], rfl, rfl⟩ ?_
 rintro m f h ⟨i, cs, hm, t3, t6, t7, t8, hd, hcs, rfl⟩
 refine za (vm ?_)
 simp only [wq.down, Nat.reduceLT, t7, t8]
 refine za (vm ?_)
 simp only [wq.down, ↓reduceIte]
 refine vcB.mk (fun hc => ?_) (fun hc => ?_)
 ·simp only [decide_eq_true_eq, Int.ofNat_lt] at hc
  have hg : (l.map vi).getD i .any = vi l[i] := ziY hc _
  obtain ⟨b0, b1⟩ := hn _ (List.getElem_mem hc)
  have hw := zm (show i < maxLen by omega)
  have hcl : cs.length = i * 1 := by rw [hcs]; simp; omega
  have dcs : ∀ p, V.drops p cs = cs := fun p => by rw [hcs]; exact zf5
  refine za (zu ?_)
  refine za (vm ?_)
  simp only [wq.down, seval, t6, t8, hg]
  refine ⟨⟨by omega, by omega⟩, ?_⟩
  refine vm ?_
  simp only [wq.down, ↓reduceIte, Nat.reduceEqDiff, Nat.reduceLT, t3]
  refine zb.ev (zgX l[i] b0 b1) rfl ?_
  simp only [wq.down, ↓reduceIte, Nat.reduceEqDiff, Nat.reduceLT, reduceCtorEq, Nat.reduceMul, hd, dcs, hcl]
  refine ⟨⟨rfl, by decide⟩, ⟨by omega, by omega⟩, ?_⟩
  refine vm ?_
  simp only [wq.down, seval, t8, hw]
  exact .inl ⟨m - 1, by omega, i + 1, _, by omega, by simp only [wq.down, seval], by simp only [wq.down, seval, t6], by simp only [wq.down, seval, t7], by simp only [wq.down, ↓reduceIte], by simp only [wq.down, hd], by rw [hcs, List.take_add_one, List.getElem?_eq_getElem hc, List.map_append, List.map_append]; rfl, rfl⟩
 ·simp only [decide_eq_false_iff_not, Int.ofNat_lt] at hc
  have : i = l.length := by omega
  subst this
  rw [List.take_length] at hcs
  subst hcs
  have hjl : (Lib.join (l.map Lib.itoa) [32]).length ≤ 100000000 := by
   obtain ⟨n, l', rfl⟩ := List.exists_cons_of_ne_nil hne
   have h1 := congrArg List.length (znq n l')
   rw [List.length_append] at h1
   have h2 := zaF hn
   omega
  have hj := zoV (l.map Lib.itoa) [32] (by rw [List.length_map]; omega) hjl
  simp only [wq.down]
  refine za (vm ?_)
  simp only [wq.down, seval, t3]
  refine zb.lend hj (zl.cons (zaw rfl (by simp)) (zl.cons (zo.dat rfl) zl.nil)) rfl ?_
  simp only [wq.down, seval]
  have hlt2 : (Lib.join (l.map Lib.itoa) [32]).length + 1 ≤ maxLen := by omega
  refine ⟨hlt2, ?_⟩
  refine vm ?_
  simp only [wq.down, ↓reduceIte, hd]
  obtain ⟨n, l', rfl⟩ := List.exists_cons_of_ne_nil hne
  rw [znq]
  exact zo.dat rfl
theorem zkn {g : Gr} (hg : g.chk ≠ 0) (hs : g.Sm) : Ev TE 30 [g.v] (.tup [(⟨0, [], [], [], []⟩ : Gr).v, vi g.chk]) := by
 have hck := zd3 g hs
 have dg : V.dats [g.v] = true := by simp only [Gr.v, V.dats, V.dat, Bool.and_self]
 unfold Gr.v at hck dg ⊢
 refine zh Tryz.func30 rfl (by simp [nts]) (vm ?_)
 simp only [wq.down, seval, Tryz.results30]
 refine zb.ev hck dg ?_
 simp only [wq.down, seval, show (g.chk != 0) = true by simpa using hg]
 exact zo.tup (zl.cons (zo.agg (zl.cons (zo.dat rfl) (zl.cons zo.nils (zl.cons zo.nils (zl.cons zo.nils (zl.cons zo.nils zl.nil)))))) (zl.dat rfl))
theorem zee {g : Gr} {i : Nat} : zaC g (i + 1) = zaC g i ++ zeq g i := by unfold zaC; rw [zcP]
theorem zko {g : Gr} {i : Nat} : zeq g i ≠ [] := by
 intro h
 have := congrArg List.length h
 unfold zeq at this
 rw [List.length_append, List.length_nil] at this
 have := zfG (2 * (g.first + (i : Int)) - (g.ands.getD i (0, 0)).1).toNat
 omega
theorem zdP {g : Gr} (hg : GP g) : ∀ i, i ≤ g.ands.length → (zaC g i).length ≤ 4 * i
 | 0, _ => by simp [zaC]
 | i + 1, h => by
  rw [zee, List.length_append]
  have := zdP hg i (by omega)
  have := zeR hg (i := i) (by omega)
  omega
def InD (g : Gr) (L : (Nat → V) → LoopState → Option Code → O) (i : Nat) (h : H) (k : Nat → Bool) : Prop :=
 (∀ j, j < 4 → k j = false) ∧ ∃ t Y, t 5 = .lp 1 0 ∧ (∀ o ∈ Y, ∀ p, O.drop p o = o) ∧
  ((i = 0 ∧ h = [.cells [vi g.ins, zr g.next, zr g.init, prs g.ands, zr g.outs], .typed 98 [.nilp, .nils], .misc .dfd, L t .ready none] ++ Y) ∨
   (0 < i ∧ ∃ b, Y[b]? = some (.typed 5 ((zaC g i).map vb)) ∧ h = [.cells [vi g.ins, zr g.next, zr g.init, prs g.ands, zr g.outs], .typed 98 [.lp 1 0, .ls (b + 4) 1 0 (zaC g i).length (zaC g i).length], .misc .dfd, L t .ready none] ++ Y))
set_option maxHeartbeats 8000000 in
theorem zhg (g : Gr) (hs : g.Sm) : Ev TE 27 [g.v] (.tup [.str (zlj g).1, vi (zlj g).2]) := by
 have hM : maxLen = 9223372036854775807 := rfl
 unfold zlj
 have dg : V.dats [g.v] = true := by simp only [Gr.v, V.dats, V.dat, Bool.and_self]
 by_cases hc : g.chk = 0
 ·rw [if_pos hc]
  have hN := zfs hc
  have hx : (zaE g).chk = 0 := zar (zar hc _) _
  have hgp := GP.of hx (zcE hc)
  have hd1 := znt (zaE g)
  obtain ⟨x, hxe⟩ : ∃ x, x = zaE g := ⟨_, rfl⟩
  rw [← hxe] at hN hx hgp hd1 ⊢
  have dx : V.dats [x.v] = true := by simp only [Gr.v, V.dats, V.dat, Bool.and_self]
  have hal := zdP hgp
  have hf1 := hgp.f1
  have hf0 := hgp.f0
  have i0 := (zE hx).i0
  unfold Gr.v at hN hd1 dg dx ⊢
  refine zh Tryz.func27 rfl (by simp [nts]) ?_
  refine za (vm ?_)
  simp only [wq.down, seval, Tryz.results27]
  refine za (vm ?_)
  simp only [wq.down, seval]
  refine zb.ev hN dg ?_
  simp only [wq.down, seval]
  refine za (vm ?_)
  simp only [wq.down, seval]
  refine za (za6 ?_)
  refine zag rfl rfl ?_
  refine zf6 (t := 98) (q := ⟨.struct [(0, 95), (1, 96)], 2, 32, .agg [.nilp, .nils]⟩) rfl (by simp only [wq.down]) rfl ?_
  refine zac ?_
  simp only [wq.down]
  refine za ?_
  refine za (vm ?_)
  simp only [wq.down, seval]
  refine zb.ev hd1 dx ?_
  simp only [wq.down]
  refine zu ?_
  refine zcK (n := 39) (q := 154) (first := []) (captured := [.ip (.agg [vi x.ins, zr x.next, zr x.init, prs x.ands, zr x.outs])]) (by simp only [wq.down, ↓reduceIte]) (by simp only [wq.down, ↓reduceIte]) rfl (by decide) ?_
  intro L hLd gets
  refine zb.mono (zhe hgp i0 (id := 3) (I := InD x L) ⟨fun _ _ => rfl, _, [], ?_, fun o ho => (by cases ho), .inl ⟨rfl, rfl⟩⟩ ?_) ?_
  ·simp only [wq.down, seval]
  ·rintro i h' k hi hk3 ⟨hk, t, Y, ht, hY, hcase⟩
   obtain ⟨q1, q2, q3⟩ := hgp.at_ i hi
   have ei : x.ands.getD i (0, 0) = x.ands[i] := zt hi
   have hli := hal i (by omega)
   have hli1 := hal (i + 1) (by omega)
   obtain ⟨d1, hd1'⟩ : ∃ d : Nat, 2 * (x.first + (i : Int)) - x.ands[i].1 = d := ⟨_, (Int.toNat_of_nonneg (a := 2 * (x.first + (i : Int)) - x.ands[i].1) (by omega)).symm⟩
   obtain ⟨d2, hd2'⟩ : ∃ d : Nat, x.ands[i].1 - x.ands[i].2 = d := ⟨_, (Int.toNat_of_nonneg (a := x.ands[i].1 - x.ands[i].2) (by omega)).symm⟩
   have hap : zeq x i = grp d1 ++ grp d2 := by unfold zeq; rw [ei, hd1', hd2', Int.toNat_natCast, Int.toNat_natCast]
   have hne : grp d1 ++ grp d2 ≠ [] := by rw [← hap]; exact zko
   have hD1 := zeP (d1 : Int)
   have hD2 := zeP (d2 : Int)
   rw [show zdM (d1 : Int) = (grp d1, 0) by unfold zdM zcU; rw [if_pos (by simp; omega), Int.toNat_natCast]] at hD1
   rw [show zdM (d2 : Int) = (grp d2, 0) by unfold zdM zcU; rw [if_pos (by simp; omega), Int.toNat_natCast]] at hD2
   have hs2 := zee (g := x) (i := i)
   rw [hap] at hs2
   rw [hd1', hd2']
   obtain ⟨pr, hpr, hprd⟩ : ∃ pr : O, pr = .cells [vi x.ands[i].1, vi x.ands[i].2] ∧ ∀ p, O.drop p pr = pr := ⟨_, rfl, fun p => rfl⟩
   rw [← hpr]
   have hY' : ∀ o ∈ Y ++ [pr], ∀ p, O.drop p o = o := fun o ho p => by
    rcases List.mem_append.1 ho with h | h
    ·exact hY o h p
    ·rw [List.mem_singleton] at h; rw [h]; exact hprd p
   rcases hcase with ⟨rfl, rfl⟩ | ⟨hpos, b, hb, rfl⟩
   ·rw [List.append_assoc]
    refine gets _ _ _ t rfl rfl (fun lb => ?_)
    refine vm ?_
    simp only [wq.down, seval, ze7]
    refine ⟨t, rfl, ?_⟩
    refine zu ?_
    refine za (vm ?_)
    simp only [wq.down, seval]
    refine zb.ev hD1 rfl ?_
    simp only [wq.down, seval]
    refine za (vm ?_)
    simp only [wq.down, seval]
    refine zb.ev hD2 rfl ?_
    simp only [wq.down, seval]
    refine vm ?_
    simp only [wq.down, seval, ht]
    have hlen : (grp d1 ++ grp d2).length ≤ 20000 := by
     have := zeR hgp hi
     rw [← hap]; omega
    refine ⟨by rw [List.length_append] at hlen; omega, zfi zcL (id := 1) (a := .nilp) (grp d1 ++ grp d2) (.inl rfl) rfl hne (by omega) ?_⟩
    simp only [wq.down, ↓reduceIte, zek, XE.block, XE.jump, Option.isNone_none]
    refine ⟨t, _, rfl, hk, t, Y ++ [pr] ++ [.typed 5 ((zaC x 1).map vb)], ht, fun o ho p => ?_, .inr ⟨by decide, Y.length + 1, ?_, ?_⟩⟩
    ·rcases List.mem_append.1 ho with h | h
     ·exact hY' o h p
     ·rw [List.mem_singleton] at h; rw [h]; simp only [O.drop, zcM]
    ·rw [show Y.length + 1 = (Y ++ [pr]).length by simp, List.getElem?_append_right (Nat.le_refl _), Nat.sub_self]; try rfl
    ·have e0 : zaC x 1 = grp d1 ++ grp d2 := hs2
     rw [e0]
     simp only [List.length_append, List.map_append, List.cons_append, List.nil_append]
   ·rw [List.append_assoc]
    refine gets _ _ _ t rfl rfl (fun lb => ?_)
    refine vm ?_
    simp only [wq.down, seval, ze7]
    refine ⟨t, rfl, ?_⟩
    refine zu ?_
    refine za (vm ?_)
    simp only [wq.down, seval]
    refine zb.ev hD1 rfl ?_
    simp only [wq.down, seval]
    refine za (vm ?_)
    simp only [wq.down, seval]
    refine zb.ev hD2 rfl ?_
    simp only [wq.down, seval]
    refine vm ?_
    simp only [wq.down, seval, ht]
    have hlen : (grp d1 ++ grp d2).length ≤ 20000 := by
     have := zeR hgp hi
     rw [← hap]; omega
    have hbl : b < Y.length := (List.getElem?_eq_some_iff.1 hb).1
    have hbq : (O.cells [vi x.ins, zr x.next, zr x.init, prs x.ands, zr x.outs] :: O.typed 98 [V.lp 1 0, V.ls (b + 4) 1 0 (zaC x i).length (zaC x i).length] :: O.misc Misc.dfd :: L t LoopState.busy none :: (Y ++ [pr]) : H)[b + 4]? = some (.typed 5 ((zaC x i).map vb)) := by
     show (Y ++ [pr])[b]? = _
     rw [List.getElem?_append_left hbl]; exact hb
    refine ⟨by rw [List.length_append] at hlen; omega, zgW zcL (id := 1) (bid := b + 4) (a := .lp 1 0) (zaC x i) (grp d1 ++ grp d2) (.inr rfl) (by omega) rfl hbq (by omega) ?_⟩
    simp only [wq.down, ↓reduceIte, zam, zek, XE.block, XE.jump, Option.isNone_none]
    have h3b : (3 == b + 4) = false := by simp
    have hmY : Y.map (O.drop fun j => j == b + 4) = Y := by
     conv => rhs; rw [← List.map_id Y]
     exact List.map_congr_left fun o ho => hY o ho _
    refine ⟨h3b, fun j => (t j).drop (fun j => j == b + 4), _, by rw [hLd], fun j hj => ?_, fun j => (t j).drop (fun j => j == b + 4), (Y ++ [pr]).set b (.typed 5 ((zaC x (i + 1)).map vb)), ?_, fun o ho p => ?_, .inr ⟨by omega, b, ?_, ?_⟩⟩
    ·show (k j || j == b + 4) = false
     rw [hk j hj]; simp; omega
    ·show V.drop (fun j => j == b + 4) (t 5) = _
     rw [ht]; simp [V.drop]
    ·rcases List.mem_or_eq_of_mem_set ho with h | h
     ·exact hY' o h p
     ·rw [h]; simp only [O.drop, zcM]
    ·rw [List.getElem?_set_self (by simp; omega)]
    ·rw [hmY, hprd, hs2]
     simp only [List.length_append, List.map_append, List.cons_append, List.nil_append]
  ·rintro ae h' p ⟨hp3, ⟨w, rfl⟩, hk, t, Y, ht, hY, hcase⟩
   have k0 := hk 0 (by decide)
   have k1 := hk 1 (by decide)
   have k2 := hk 2 (by decide)
   have k3 := hk 3 (by decide)
   have hfin : h'[3]? = some (L t .ready none) := by
    rcases hcase with ⟨_, rfl⟩ | ⟨_, b, _, rfl⟩ <;> rfl
   refine ⟨?_, k3, t, _, none, (by decide), hfin, ?_⟩
   ·intro i hi
    have hi : i = 2 := by
     rcases List.mem_cons.1 hi with h | h
     ·exact h
     ·cases h
    subst hi
    exact k2
   ·simp only [wq.down, Nat.reduceAdd, zkE]
    generalize hFF : Fr.drop _ _ = FF
    have u5 : FF.t 5 = .lp 1 0 := by rw [← hFF]; show V.drop p (.lp 1 0) = _; simp [V.drop, k1]
    have ud : FF.d = [2] := by rw [← hFF]; rfl
    clear hFF
    rcases hcase with ⟨h0, rfl⟩ | ⟨hpos, b, hb, rfl⟩
    ·refine za (vm ?_)
     simp only [wq.down, Nat.reduceLT, u5]
     refine zj8 (T := 98) (a := .nilp) rfl ?_
     simp only [wq.down, seval]
     refine vm ?_
     simp only [wq.down, seval, ud, zbs]
     rw [show zaC x x.ands.length = [] by rw [h0]; rfl]
     exact zo.dat rfl
    ·refine za (vm ?_)
     simp only [wq.down, ↓reduceIte, Nat.reduceEqDiff, Nat.reduceLT, Nat.reduceLeDiff, Nat.reduceAdd, Nat.reduceSub, Int.reduceToNat, Nat.reduceDiv, Int.reduceLT, Int.reduceLE, Int.reduceNeg, Int.reduceBEq, Int.reduceBNe, Int.reduceAdd, Int.reduceSub, Nat.reduceBEq, reduceCtorEq, Nat.reduceMul, zg, Tryz.results27, u5, ud]
     have hbl : b < Y.length := (List.getElem?_eq_some_iff.1 hb).1
     refine zi5 (id := 1) (bid := b + 4) (a := .lp 1 0) (zaC x x.ands.length) rfl (by show Y[b]? = _; exact hb) (fun h => ?_) (by have := hal x.ands.length (Nat.le_refl _); omega) ?_
     ·obtain ⟨n, hn⟩ : ∃ n, x.ands.length = n + 1 := ⟨x.ands.length - 1, by omega⟩
      rw [hn, zee, List.append_eq_nil_iff] at h
      exact zko h.2
     ·simp only [wq.down, ↓reduceIte, Nat.reduceEqDiff, Nat.reduceLT, Nat.reduceLeDiff, Nat.reduceAdd, Nat.reduceSub, Int.reduceToNat, Nat.reduceDiv, Int.reduceLT, Int.reduceLE, Int.reduceNeg, Int.reduceBEq, Int.reduceBNe, Int.reduceAdd, Int.reduceSub, Nat.reduceBEq, reduceCtorEq, Nat.reduceMul, zg, Tryz.results27, zam, u5, ud]
      refine ⟨by simp, ?_⟩
      refine vm ?_
      simp only [wq.down, seval, ud, zbs]
      exact zo.dat rfl
 ·rw [if_neg hc]
  have hN := zkn hc hs
  have hne : (g.chk != 0) = true := by simpa using hc
  unfold Gr.v at hN dg ⊢
  refine zh Tryz.func27 rfl (by simp [nts]) ?_
  refine za (vm ?_)
  simp only [wq.down, seval, Tryz.results27]
  refine za (vm ?_)
  simp only [wq.down, seval]
  refine zb.ev hN dg ?_
  simp only [wq.down, seval]
  refine za (vm ?_)
  simp only [wq.down, seval, hne]
  exact zo.dat rfl
abbrev hB (m : Mo) (out : S) (X : H) : H := mbO m :: gbO m.g :: .typed 98 [.lp 2 0, .ls 3 1 0 out.length out.length] :: .typed 5 (out.map vb) :: X
theorem zkp {m : Mo} {out s : S} {X : H} (hX : zqx X) (hs : s ≠ []) (hl : out.length + s.length ≤ 20000000000000) {R : AEnd → H → (Nat → Bool) → Prop} (hr : R (.ret (.tup [vi s.length, .nili])) (hB m (out ++ s) X) (· == 3)) : zb TE 58 [.lp 2 0, .str s] (hB m out X) R := by
 refine zgW zcL out s (.inr rfl) (by decide) rfl rfl hl ?_
 have hm : X.map (O.drop fun j => j == 3) = X := by
  conv => rhs; rw [← List.map_id X]
  exact List.map_congr_left fun o ho => hX o ho _
 have e : (((hB m out X).map (O.drop (· == 3))).set 3 (O.typed 5 ((out ++ s).map vb))).set 2 (.typed 98 [.lp 2 0, .ls 3 1 0 (out ++ s).length (out ++ s).length]) = hB m (out ++ s) X := by
  show mbO m :: gbO m.g :: _ :: _ :: X.map (O.drop fun j => j == 3) = _
  rw [hm]
 rw [e]
 exact hr
theorem znv {h : H} {id : Nat} {cs ex : List V} {L : Cl} (hc : h[id]? = some (.cells cs)) (hx : cs = L.map vi ++ ex) {len cap : Nat} (hl : len = L.length := by rfl) : zo TE h (.ls id 1 0 len cap) (zr L) :=
 zhK (cs := L.map vi) (ex := ex) (by rw [hc, hx]) (zl.dat (zd2 L)) (zmn L) (ziZ L) (by simpa using hl)
def zkq : Plan := .take 1 <| .alt 0 (.alt 2 (.one 3 <| .one 4 <| .one 5 <| .take 6 <| .take 7 <| .fin) (.one 3 (.alt 2 (.one 4 <| .one 5 <| .take 6 <| .take 7 <| .fin) (.one 4 (.one 2 <| .one 5 <| .take 6 <| .take 7 <| .fin))))) (.one 3 (.one 0 <| .alt 2 (.one 4 <| .one 5 <| .take 6 <| .take 7 <| .fin) (.one 4 (.one 2 <| .one 5 <| .take 6 <| .take 7 <| .fin))))
def tP1 (g : Gr) : S := [97, 105, 103, 32] ++ lnT (zaV g)
def tPL (g : Gr) (i : Nat) : S := tP1 g ++ zhb g i
def tPO (g : Gr) (i : Nat) : S := tPL g g.next.length ++ zez g.outs i
theorem zoX (g : Gr) (i : Nat) : tPL g (i + 1) = tPL g i ++ lnT (ziy g i) := by unfold tPL zhb; rw [zcP, List.append_assoc]
theorem zoY (g : Gr) (i : Nat) : tPO g (i + 1) = tPO g i ++ lnT [g.outs.getD i 0] := by unfold tPO zez; rw [zcP, List.append_assoc]
theorem zpB (l : Cl) : lnT l ≠ [] := by
 cases l with
 | nil => simp [lnT]
 | cons n l =>
  intro h
  obtain ⟨c, r, hc, _⟩ := zpq l
  have : Lib.itoa n ++ lnG l = [] := h
  rw [hc] at this
  simp at this
theorem znw {g : Gr} (s : GSm g) {i : Nat} (h : i < g.next.length) : (∀ n ∈ ziy g i, 0 ≤ n ∧ n ≤ 2147483647) ∧ (ziy g i).length ≤ 2 ∧ ziy g i ≠ [] := by
 obtain ⟨h1, h2⟩ := s.la h
 have e : zpp g i = 2 * (1 + g.ins + (i : Int)) :: ziy g i := rfl
 rw [e] at h1 h2
 rw [List.length_cons] at h2
 exact ⟨fun n hn => h1 n (List.mem_cons_of_mem _ hn), by omega, by unfold ziy; simp⟩
theorem zr4 {g : Gr} (s : GSm g) : (tP1 g).length ≤ 100 ∧ (∀ i, i ≤ g.next.length → (tPL g i).length ≤ 100000 + 23 * i) ∧ ∀ i, i ≤ g.outs.length → (tPO g i).length ≤ 300000 + 12 * i := by
 have i2 := s.i2
 have i3 := s.i3
 have i0 := s.i0
 have h1 : (tP1 g).length ≤ 100 := by
  have := zaF s.head
  have h5 : (zaV g).length = 5 := rfl
  unfold tP1
  rw [List.length_append]
  show 4 + _ ≤ _
  omega
 have h2 : ∀ i, i ≤ g.next.length → (tPL g i).length ≤ 100000 + 23 * i := fun i hi => by
  have := zbB (f := fun i : Nat => lnT (ziy g i)) (c := 23) (n := g.next.length) (fun i hi => by
   obtain ⟨a1, a2, _⟩ := znw s hi
   have := zaF a1
   omega) i hi
  unfold tPL zhb
  rw [List.length_append]
  omega
 refine ⟨h1, h2, fun i hi => ?_⟩
 have h3 := zbB (f := fun i : Nat => lnT [g.outs.getD i 0]) (c := 12) (n := g.outs.length) (fun i hi => zaF (s.o1 hi)) i hi
 have h4 := h2 g.next.length (Nat.le_refl _)
 unfold tPO zez
 rw [List.length_append]
 omega
set_option maxHeartbeats 8000000 in
theorem zfM (m : Mo) (hs : m.g.Sm) : Ev TE 25 [m.v] (.tup [.str (zfH m).1, vi (zfH m).2]) := by
 have hM : maxLen = 9223372036854775807 := rfl
 have hn := zgd m hs
 have dm : V.dats [m.v] = true := by simp only [Mo.v, V.dats, V.dat, Bool.and_self]
 unfold zmR at hn
 unfold zfH
 by_cases hc : m.chk = 0
 ·rw [if_pos hc] at hn ⊢
  have hgc := (zaO hc).1
  have hNc : (zaE m.g).chk = 0 := zar (zar hgc _) _
  have gs : GSm (zaE m.g) := GSm.of hNc
  have eA := zhg (zaE m.g) (znh hc)
  unfold zlj at eA
  rw [if_pos hNc, zkb hgc] at eA
  obtain ⟨n, hnm⟩ : ∃ n, n = m.norm := ⟨_, rfl⟩
  rw [← hnm] at hn ⊢
  have hng : zaE m.g = n.g := by rw [hnm]; rfl
  rw [hng] at eA gs
  have hls : (m.ins.length : Int) = m.g.ins ∧ (m.lat.length : Int) = m.g.next.length ∧ (m.out.length : Int) = m.g.outs.length := by
   simpa [Mo.lens, Bool.or_eq_false_iff, and_assoc] using (zaO hc).2.1
  have hnm4 := zcC hc
  have hok := zE hgc
  have ho1 := hok.i0; have ho2 := hok.i2; have ho3 := hok.i3
  have hni : n.ins = m.ins ∧ n.lat = m.lat ∧ n.out = m.out := by rw [hnm]; exact ⟨rfl, rfl, rfl⟩
  have bl1 : n.ins.length ≤ 10000 := by rw [hni.1]; omega
  have bl2 : n.lat.length ≤ 10000 := by rw [hni.2.1]; omega
  have bl3 : n.out.length ≤ 10000 := by rw [hni.2.2]; omega
  have htl := zoK n bl1 bl2 bl3 (by rw [hni.1, hni.2.1, hni.2.2]; exact hnm4)
  have eT := zqw n (by omega) (by omega) (by omega) (by omega)
  have g0 := gs.i0
  have g2 := gs.i2
  have g3 := gs.i3
  obtain ⟨L1, L2, L3⟩ := zr4 gs
  have wf : n.g.first = 1 + n.g.ins + n.g.next.length := rfl
  have eH := zhf (zaV n.g) (by simp [zaV]) (by simp [zaV]) gs.head
  have dn : V.dats [n.v] = true := by simp only [Mo.v, V.dats, V.dat, Bool.and_self]
  have dng : V.dats [n.g.v] = true := by simp only [Gr.v, V.dats, V.dat, Bool.and_self]
  unfold Mo.v at hn dm eT dn ⊢
  unfold Gr.v at eA dng
  refine zh Tryz.func25 rfl (by simp [nts]) ?_
  refine za (vm ?_)
  simp only [wq.down, seval, Tryz.results25]
  refine za (vm ?_)
  simp only [wq.down, seval]
  refine zb.ev hn dm ?_
  simp only [wq.down, seval]
  refine za (vm ?_)
  simp only [wq.down, seval]
  refine za (vm ?_)
  simp only [wq.down, seval]
  refine za (za6 ?_)
  refine zag rfl rfl ?_
  refine zf6 (t := 98) (q := ⟨.struct [(0, 95), (1, 96)], 2, 32, .agg [.nilp, .nils]⟩) rfl (by simp only [wq.down]) rfl ?_
  refine zac ?_
  simp only [wq.down, Nat.reduceAdd]
  have w1 : IntKind.i64.wrap (n.g.ins + (n.g.next.length : Int)) = n.g.first - 1 := by rw [zJ (by omega) (by omega)]; omega
  have w2 : IntKind.i64.wrap (n.g.first - 1 + (n.g.ands.length : Int)) = n.g.first - 1 + (n.g.ands.length : Int) := zJ (by omega) (by omega)
  refine za (vm ?_)
  simp only [wq.down, ↓reduceIte, Nat.reduceEqDiff, Nat.reduceLT, Nat.reduceLeDiff, Nat.reduceAdd, reduceCtorEq, Nat.reduceMul, w1, w2]
  refine ⟨⟨rfl, by decide⟩, zb.ev (eH.les (zaq.cons za3 zaq.nil)) rfl ?_⟩
  simp only [wq.down, seval]
  have hP1 : ([97, 105, 103, 32] ++ lnT (zaV n.g) : S) = tP1 n.g := rfl
  have hP1l : (tP1 n.g).length = 4 + (lnT (zaV n.g)).length := by rw [← hP1, List.length_append]; rfl
  rw [show (97 :: 105 :: 103 :: 32 :: lnT (zaV n.g) : S) = tP1 n.g from rfl]
  obtain ⟨B1, hB1⟩ : ∃ B1, B1 = tP1 n.g := ⟨_, rfl⟩
  rw [← hB1] at hP1l L1 ⊢
  refine ⟨by omega, zfi zcL (id := 2) (a := .nilp) B1 (.inl rfl) rfl (by rw [hB1, ← hP1]; simp) (by omega) ?_⟩
  show zY _ _ _ _ (.ret _) (hB n B1 []) _
  simp only [wq.down]
  generalize hFF : Fr.put _ _ _ = FF
  have t1 : FF.t 1 = .lp 0 0 := by rw [← hFF]; rfl
  have t5 : FF.t 5 = .lp 1 0 := by rw [← hFF]; rfl
  have t6 : FF.t 6 = .lp 2 0 := by rw [← hFF]; rfl
  have fd : FF.d = [] := by rw [← hFF]; rfl
  clear hFF
  refine za ?_
  refine za ?_
  refine vm ?_
  simp only [wq.down, seval, t5]
  refine zu ?_
  refine zw (fun mm f h' => ∃ (i : Nat) (X : H), mm + i = n.g.next.length ∧ zqx X ∧ f.t 1 = .lp 0 0 ∧ f.t 5 = .lp 1 0 ∧ f.t 6 = .lp 2 0 ∧ f.t 50 = zr n.g.next ∧ f.t 51 = vi n.g.next.length ∧ f.t 52 = vi i ∧ f.d = [] ∧ h' = hB n (tPL n.g i) X) n.g.next.length ⟨0, [], by simp, (fun o ho => by cases ho), by simp only [wq.down, seval, t1], by simp only [wq.down, seval, t5], by simp only [wq.down, seval, t6], by simp only [wq.down, seval], by simp only [wq.down, seval], rfl, by simp only [wq.down, fd], by rw [hB1]; simp [tPL, zhb]⟩ ?_
  clear t1 t5 t6 fd
  rintro mm f h' ⟨i, X, hm, hX, t1, t5, t6, t50, t51, t52, fd, rfl⟩
  refine za (vm ?_)
  simp only [wq.down, Nat.reduceLT, t51, t52]
  refine za (vm ?_)
  simp only [wq.down, ↓reduceIte]
  refine vcB.mk (fun hlt => ?_) (fun hlt => ?_)
  ·simp only [decide_eq_true_eq, Int.ofNat_lt] at hlt
   have hw := zm (show i < maxLen by omega)
   have hg1 : (n.g.next.map vi).getD i .any = vi n.g.next[i] := ziY hlt _
   have hli : i < n.g.init.length := by rw [gs.hil]; exact hlt
   have hg2 : (n.g.init.map vi).getD i .any = vi n.g.init[i] := ziY hli _
   have hib := gs.hin _ (List.getElem_mem hli)
   have hlb := L2 i (by omega)
   have wA : IntKind.i64.wrap (1 + n.g.ins) = 1 + n.g.ins := zJ (by omega) (by omega)
   have wB : IntKind.i64.wrap (1 + n.g.ins + (i : Int)) = 1 + n.g.ins + (i : Int) := zJ (by omega) (by omega)
   obtain ⟨nx, hnx⟩ : ∃ nx, nx = n.g.next[i] := ⟨_, rfl⟩
   obtain ⟨v, hv⟩ : ∃ v, v = n.g.init[i] := ⟨_, rfl⟩
   obtain ⟨lit, hlit⟩ : ∃ lit, lit = 2 * (1 + n.g.ins + (i : Int)) := ⟨_, rfl⟩
   have hla : ziy n.g i = nx :: (if v = 0 then [] else if v = 1 then [1] else [lit]) := by
    unfold ziy
    rw [zt hlt, zt hli, hnx, hv, hlit]
   rw [← hnx] at hg1
   rw [← hv] at hg2 hib
   have wC : IntKind.i64.wrap (2 * (1 + n.g.ins + (i : Int))) = lit := by rw [hlit]; exact zJ (by omega) (by omega)
   obtain ⟨b1, b2, b3⟩ := znw gs hlt
   have hsu := zoX n.g i
   rw [hla] at b1 hsu
   have gX : ∀ a : O, (X ++ [a])[X.length]? = some a := fun a => by simp
   have sX : ∀ a b : O, (X ++ [a]).set X.length b = X ++ [b] := fun a b => by simp
   refine za (zu ?_)
   refine za (vm ?_)
   simp only [wq.down, seval, t50, t52, hg1]
   refine ⟨⟨by omega, by omega⟩, ?_⟩
   refine za (vm ?_)
   simp only [wq.down, seval, t5, wA, wB, wC, gX, sX]
   refine za (zK (Q := fun xe f h => xe = .normal ∧ f.t 1 = .lp 0 0 ∧ f.t 5 = .lp 1 0 ∧ f.t 6 = .lp 2 0 ∧ f.t 7 = vi i ∧ f.t 9 = .lp (X.length + 4) 0 ∧ f.t 50 = zr n.g.next ∧ f.t 51 = vi n.g.next.length ∧ f.t 52 = vi i ∧ f.d = [] ∧ ∃ (c : Int) (L : Cl) (ex : List V), [vi nx, vi c, vi lit] = L.map vi ++ ex ∧ (L.length : Int) = 1 + min v 1 ∧ L = nx :: (if v = 0 then [] else if v = 1 then [1] else [lit]) ∧ h = hB n (tPL n.g i) (X ++ [.cells [vi nx, vi c, vi lit]])) ?_ ?_)
   rotate_left
   ·refine za (vm ?_)
    simp only [wq.down, seval, t5, hg2]
    refine ⟨⟨by omega, by omega⟩, ?_⟩
    by_cases hv2 : v = 2
    ·refine zT (b := true) (by simp only [wq.down, ↓reduceIte]) (by simp only [wq.down, ↓reduceIte, Nat.reduceEqDiff, Nat.reduceLT, Nat.reduceLeDiff, Nat.reduceAdd, Nat.reduceSub, Int.reduceToNat, Nat.reduceDiv, Int.reduceLT, Int.reduceLE, Int.reduceNeg, Int.reduceBEq, Int.reduceBNe, Int.reduceAdd, Int.reduceSub, Nat.reduceBEq, reduceCtorEq, Nat.reduceMul, zg, Tryz.results25, hv2]) (fun _ => ?_) (fun h => by cases h)
     refine vm ?_
     simp only [wq.down, ↓reduceIte, Nat.reduceEqDiff, Nat.reduceLT, Nat.reduceLeDiff, Nat.reduceAdd, Nat.reduceSub, Int.reduceToNat, Nat.reduceDiv, Int.reduceLT, Int.reduceLE, Int.reduceNeg, Int.reduceBEq, Int.reduceBNe, Int.reduceAdd, Int.reduceSub, Nat.reduceBEq, reduceCtorEq, Nat.reduceMul, zg, Tryz.results25, t1, t5, t6, t50, t51, t52, fd, gX, sX]
     exact ⟨by decide, by decide, lit, [nx, lit], [vi lit], rfl, by rw [hv2]; rfl, by rw [hv2]; rfl, rfl⟩
    ·have hv2' : (v == 2) = false := by simpa using hv2
     refine zT (b := false) (by simp only [wq.down, ↓reduceIte]) (by simp only [wq.down, ↓reduceIte, hv2']) (fun h => by cases h) (fun _ => ?_)
     refine vm ?_
     simp only [wq.down, seval]
     refine ⟨t1, t5, t6, t50, t51, t52, fd, ?_⟩
     by_cases hv0 : v = 0
     ·exact ⟨1, [nx], [vi 1, vi lit], rfl, by rw [hv0]; rfl, by rw [hv0]; rfl, rfl⟩
     ·have hv1 : v = 1 := by omega
      exact ⟨1, [nx, 1], [vi lit], rfl, by rw [hv1]; rfl, by rw [hv1]; rfl, rfl⟩
   ·rintro xe f h ⟨rfl, t1, t5, t6, t7, t9, t50, t51, t52, fd, c, L, ex, hex, hLl, hLe, rfl⟩
    show awp _ _ _ _ _ _ _
    rw [← hLe] at hla b1 hsu
    have hm1 : 0 ≤ min v 1 ∧ min v 1 ≤ 1 := by omega
    have wM : IntKind.i64.wrap (1 + min v 1) = (L.length : Int) := by rw [hLl]; exact zJ (by omega) (by omega)
    have hLne : L ≠ [] := by rw [hLe]; simp
    have hL2 : L.length ≤ 2 := by omega
    have hLn := zaF b1
    have eL := zhf L hLne (by omega) b1
    have hXa : zqx (X ++ [O.cells [vi nx, vi c, vi lit]]) := fun o ho p => by
     rcases List.mem_append.1 ho with h | h
     ·exact hX o h p
     ·rw [List.mem_singleton] at h; rw [h]; rfl
    have hq : ti TE.P 138 = some ⟨.arr 3 3 (some .i64), 3, 24, .agg [vi 0, vi 0, vi 0]⟩ := by simp only [wq.down]
    refine za6 ?_
    refine zj rfl rfl ?_
    simp only [wq.down, Nat.reduceLT, t5]
    refine zj rfl rfl ?_
    simp only [wq.down, seval]
    refine zj rfl rfl ?_
    simp only [wq.down, seval, t7]
    refine zj rfl rfl ?_
    simp only [wq.down, seval]
    refine ⟨⟨by omega, by omega⟩, ?_⟩
    refine zj rfl rfl ?_
    simp only [wq.down, ↓reduceIte, hg2]
    refine zj rfl rfl ?_
    simp only [wq.down, ↓reduceIte, mn]
    refine zj rfl rfl ?_
    simp only [wq.down, ↓reduceIte, wM]
    have hre : ti TE.P 3 = some ⟨.int .i64, 1, 8, vi 0⟩ := by simp only [wq.down]
    have hget : (hB n (tPL n.g i) (X ++ [O.cells [vi nx, vi c, vi lit]]))[X.length + 4]? = some (.cells [vi nx, vi c, vi lit]) := gX _
    refine zag rfl rfl ?_
    refine zfR (t := 138) rfl hq rfl hre (by simp only [wq.down, seval, t9]) (id := X.length + 4) (off := 0) (by simp only [wq.down, seval, t9]) hget (by show 0 + 3 * 1 ≤ 3; decide) (by decide) (a := L.length) (b := 2) (by simp only [wq.down, ↓reduceIte]) (by simp only [wq.down, ↓reduceIte]) (by simp only [wq.down]) (by simp only [wq.down]; rfl) hL2 (by decide) ?_
    refine zj rfl rfl ?_
    simp only [wq.down, ↓reduceIte]
    refine zb.lend eL (zl.cons (znv hget hex) zl.nil) rfl ?_
    simp only [wq.down]
    refine zj rfl rfl ?_
    simp only [wq.down, seval, t6]
    refine zkp (m := n) (out := tPL n.g i) hXa (zpB L) (by omega) ?_
    rw [← hsu]
    simp only [wq.down, zam, fd]
    refine zac ?_
    simp only [XE.block, XE.seq]
    refine vm ?_
    simp only [wq.down, seval, t52, hw]
    exact .inl ⟨mm - 1, by omega, i + 1, _, by omega, hXa, by simp only [wq.down, seval, t1], by simp only [wq.down, seval, t5], by simp only [wq.down, seval, t6], by simp only [wq.down, seval, t50], by simp only [wq.down, seval, t51], rfl, by simp only [wq.down, fd], rfl⟩
  ·simp only [decide_eq_false_iff_not, Int.ofNat_lt] at hlt
   have hi : i = n.g.next.length := by omega
   subst hi
   simp only [wq.down]
   refine za ?_
   refine za ?_
   refine vm ?_
   simp only [wq.down, seval, t5]
   refine zu ?_
   refine zw (fun mm f h' => ∃ (i : Nat), mm + i = n.g.outs.length ∧ f.t 1 = .lp 0 0 ∧ f.t 5 = .lp 1 0 ∧ f.t 6 = .lp 2 0 ∧ f.t 86 = zr n.g.outs ∧ f.t 87 = vi n.g.outs.length ∧ f.t 88 = vi i ∧ f.d = [] ∧ h' = hB n (tPO n.g i) X) n.g.outs.length ⟨0, by simp, by simp only [wq.down, seval, t1], by simp only [wq.down, seval, t5], by simp only [wq.down, seval, t6], by simp only [wq.down, seval], by simp only [wq.down, seval], rfl, by simp only [wq.down, fd], by simp [tPO, zez]⟩ ?_
   clear t1 t5 t6 t50 t51 t52 fd hm hlt
   rintro mm f h' ⟨i, hm, t1, t5, t6, t86, t87, t88, fd, rfl⟩
   refine za (vm ?_)
   simp only [wq.down, Nat.reduceLT, t87, t88]
   refine za (vm ?_)
   simp only [wq.down, ↓reduceIte]
   refine vcB.mk (fun hlt => ?_) (fun hlt => ?_)
   ·simp only [decide_eq_true_eq, Int.ofNat_lt] at hlt
    have hw := zm (show i < maxLen by omega)
    have hg1 : (n.g.outs.map vi).getD i .any = vi n.g.outs[i] := ziY hlt _
    have b1 := gs.o1 hlt
    have hsu := zoY n.g i
    rw [zt hlt] at b1 hsu
    have eL := zhf [n.g.outs[i]] (by simp) (by simp) b1
    have hLn := zaF b1
    have hlb := L3 i (by omega)
    refine za (zu ?_)
    refine za (vm ?_)
    simp only [wq.down, ↓reduceIte, Nat.reduceEqDiff, Nat.reduceLT, t86, t88, hg1]
    refine ⟨⟨by omega, by omega⟩, ?_⟩
    refine vm ?_
    simp only [wq.down, ↓reduceIte, Nat.reduceLT, reduceCtorEq, Nat.reduceMul]
    refine ⟨⟨rfl, by decide⟩, zb.ev (eL.les (zaq.cons za3 zaq.nil)) rfl ?_⟩
    simp only [wq.down, seval, t6]
    refine zkp (m := n) (out := tPO n.g i) hX (zpB _) (by simp only [List.length_singleton] at hLn; omega) ?_
    rw [← hsu]
    simp only [wq.down, zam, fd]
    refine vm ?_
    simp only [wq.down, seval, t88, hw]
    exact .inl ⟨mm - 1, by omega, i + 1, by omega, by simp only [wq.down, seval, t1], by simp only [wq.down, seval, t5], by simp only [wq.down, seval, t6], by simp only [wq.down, seval, t86], by simp only [wq.down, seval, t87], rfl, by simp only [wq.down, fd], rfl⟩
   ·simp only [decide_eq_false_iff_not, Int.ofNat_lt] at hlt
    have hi : i = n.g.outs.length := by omega
    subst hi
    have hlb := L3 n.g.outs.length (Nat.le_refl _)
    simp only [wq.down]
    refine za (vm ?_)
    simp only [wq.down, seval, t5]
    refine zb.ev eA dng ?_
    simp only [wq.down, seval]
    refine za ?_
    have hal := zdP (GP.of (by rw [← hng]; exact hNc) (by rw [← hng]; exact zcE hgc)) n.g.ands.length (Nat.le_refl _)
    have hTt : ([97, 105, 103, 32] ++ (lnT (zaV n.g) ++ (zhb n.g n.g.next.length ++ (zez n.g.outs n.g.outs.length ++ zaC n.g n.g.ands.length))) ++ zcB n : S) = tPO n.g n.g.outs.length ++ zaC n.g n.g.ands.length ++ zcB n := by simp only [tPO, tPL, tP1, List.append_assoc]
    have hpk : zed n = tPO n.g n.g.outs.length ++ zaC n.g n.g.ands.length ++ zcB n := hTt
    have hXm : X.map (O.drop fun j => j == 3) = X := by
     conv => rhs; rw [← List.map_id X]
     exact List.map_congr_left fun o ho => hX o ho _
    refine zO mixed zkq (fun f' h' => f'.t 2 = .str (zed n) ∧ f'.t 3 = vi 0 ∧ f'.d = []) (by decide +kernel) (by decide +kernel) ?_ ?_
    ·have hPn : tPO n.g n.g.outs.length ≠ [] := by simp [tPO, tPL, tP1]
     simp only [wq.down, seval, zkq, t1, t6]
     repeat' apply And.intro
     all_goals repeat' first
      | (refine zi5 (id := 2) (bid := 3) (a := .lp 2 0) (tPO n.g n.g.outs.length) rfl rfl hPn (by omega) ?_
         simp only [wq.down, seval, zam, hXm, t1, fd])
      | (refine zb.ev eT dn ?_
         simp only [wq.down, seval, fd])
      | refine And.intro ?_ ?_
      | omega
     all_goals rw [hpk]
    ·rintro f' h' ⟨u2, u3, ud⟩
     show awp _ _ _ _ _ _ _
     refine vm ?_
     simp only [wq.down, u2, u3, ud]
     exact zo.dat rfl
 ·rw [if_neg hc] at hn ⊢
  have hne : (m.chk != 0) = true := by simpa using hc
  unfold Mo.v at hn dm ⊢
  refine zh Tryz.func25 rfl (by simp [nts]) ?_
  refine za (vm ?_)
  simp only [wq.down, seval, Tryz.results25]
  refine za (vm ?_)
  simp only [wq.down, seval]
  refine zb.ev hn dm ?_
  simp only [wq.down, seval]
  refine za (vm ?_)
  simp only [wq.down, seval, hne]
  exact zo.dat rfl
open Go.RowKit
abbrev kG : Gr := ⟨2, [], [], [(4, 2)], [6]⟩
abbrev kM : Mo := ⟨⟨2, [], [], [(4, 2)], [7]⟩, [[97], [105, 49]], [], [[111, 48]]⟩
abbrev kA : S := [97, 105, 103, 32, 51, 32, 50, 32, 48, 32, 49, 32, 49, 10, 55, 10, 2, 2, 105, 48, 32, 97, 10]
abbrev kP : S := [97, 105, 103, 32, 51, 32, 50, 32, 48, 32, 49, 32, 49, 10, 55, 10, 2, 2, 105, 48, 32, 97, 10, 105, 49, 32, 105, 49, 10, 111, 48, 32, 111, 48, 10]
abbrev kB : S := [97, 105, 103, 32, 52, 32, 50, 32, 48, 32, 49, 32, 49, 10, 55, 10, 2, 2]
theorem zst : za5 kA = .ok kM := zqy (by decide +kernel)
theorem zsu : za5 kB = .error (0, 1) := zrW (by decide +kernel)
theorem zqH : zlj kG = ([2, 2], 0) := of_decide_eq_true (by decide +kernel)
theorem zsv : za4 [120, 2, 2] 1 3 1 = ([(4, 2)], 3, 0) := of_decide_eq_true (by decide +kernel)
theorem zsw : za4 [0, 0] 0 3 1 = ([], 0, 1) := of_decide_eq_true (by decide +kernel)
theorem zsx : zfH kM = (kP, 0) := of_decide_eq_true (by decide +kernel)
theorem zoZ : zL kB 0 1 = .agg [vi 1, vi 1, vi 1] := by
 have : (decide ((zV kB 0).1 = 1) && decide ((zV kB 0).2 = 1)) = true := by decide +kernel
 simp only [Bool.and_eq_true, decide_eq_true_eq] at this
 unfold zL
 rw [if_neg (by decide), this.1, this.2]
theorem zr5 (h : H) : zbF P h 96 9 (.is true 1 [.int .u8 0, .int .u8 0]) = (True, .str [0, 0]) := by
 simp only [zbF, tis, zah, Option.map_some, and_self]
 rfl
theorem zr6 (h : H) : zbF P h 96 9 (.is true 1 [.int .u8 2, .int .u8 2]) = (True, .str [2, 2]) := by
 simp only [zbF, tis, zah, Option.map_some, and_self]
 rfl
set_option maxHeartbeats 4000000 in
theorem zef : Ev TE 24 [] (.bool true) := by
 have e1 := zhg kG ⟨by decide, by decide⟩
 rw [zqH] at e1
 have e2 := zcG [120, 2, 2] 1 3 1 (by decide)
 rw [zsv] at e2
 have e3 := zfL kA (by decide)
 unfold zaL at e3
 rw [zst] at e3
 have e4 := zfM kM ⟨by decide, by decide⟩
 rw [zsx] at e4
 have e5 := zfL kB (by decide)
 unfold zaL at e5
 rw [zsu] at e5
 dsimp only at e5
 rw [show zL kB ((0 : Nat) : Int) 1 = .agg [vi 1, vi 1, vi 1] from zoZ] at e5
 have e6 := zcG [0, 0] 0 3 1 (by decide)
 rw [zsw] at e6
 have e7 := zkm [(4, 2)] [(4, 2)] (by decide)
 simp only [Mo.v, Gr.v, ziq] at e1 e2 e3 e4 e5 e6 e7
 refine zh Tryz.func24 rfl (by simp [nts]) ?_
 refine za (vm ?_)
 simp only [wq.down, ↓reduceIte, Nat.reduceEqDiff, Nat.reduceLT, Nat.reduceLeDiff, Nat.reduceAdd, Nat.reduceSub, Int.reduceToNat, Nat.reduceDiv, Int.reduceLT, Int.reduceLE, Int.reduceNeg, Int.reduceBEq, Int.reduceBNe, Int.reduceAdd, Int.reduceSub, Nat.reduceBEq, reduceCtorEq, Nat.reduceMul, zg, Tryz.results24]
 refine za (vm ?_)
 simp only [wq.down, ↓reduceIte, Nat.reduceEqDiff, Nat.reduceLT, Nat.reduceLeDiff, Nat.reduceAdd, Nat.reduceSub, Int.reduceToNat, Nat.reduceDiv, Int.reduceLT, Int.reduceLE, Int.reduceNeg, Int.reduceBEq, Int.reduceBNe, Int.reduceAdd, Int.reduceSub, Nat.reduceBEq, reduceCtorEq, Nat.reduceMul, zg, Tryz.results24]
 refine ⟨⟨by decide, by decide⟩, ⟨by decide, by decide⟩, ?_⟩
 refine za (vm ?_)
 simp only [wq.down, seval]
 refine zb.ev (e1.les (zaq.cons (zjc (zaq.cons (VLe.refl _) (zaq.cons zal (zaq.cons zal (zaq.cons za3 (zaq.cons za3 zaq.nil)))))) zaq.nil)) rfl ?_
 simp only [wq.down, seval]
 refine za (vm ?_)
 simp only [wq.down, seval]
 refine ⟨by decide, ?_⟩
 refine zb.ev e2 rfl ?_
 simp only [wq.down, seval]
 refine za (vm ?_)
 simp only [wq.down, seval]
 refine ⟨by decide, by decide, ?_⟩
 refine zb.ev e3 rfl ?_
 simp only [wq.down, seval]
 refine za (vm ?_)
 simp only [wq.down, seval]
 refine zb.ev e4 rfl ?_
 simp only [wq.down, seval]
 refine za (vm ?_)
 simp only [wq.down, seval]
 refine ⟨by decide, ?_⟩
 refine zb.ev e5 rfl ?_
 simp only [wq.down, ↓reduceIte, Nat.reduceEqDiff, Nat.reduceLT, Nat.reduceAdd]
 refine za (vm ?_)
 simp only [wq.down, ↓reduceIte, Nat.reduceLT, reduceCtorEq, Nat.reduceMul, zr5]
 refine ⟨⟨by decide, by decide⟩, ?_⟩
 refine zb.ev e6 rfl ?_
 simp only [wq.down, ↓reduceIte, Nat.reduceEqDiff, Nat.reduceLT, Nat.reduceAdd]
 refine za (vm ?_)
 simp only [wq.down, ↓reduceIte, Nat.reduceEqDiff, Nat.reduceLT, Nat.reduceLeDiff, Nat.reduceAdd, Nat.reduceSub, Int.reduceToNat, Nat.reduceDiv, Int.reduceLT, Int.reduceLE, Int.reduceNeg, Int.reduceBEq, Int.reduceBNe, Int.reduceAdd, Int.reduceSub, Nat.reduceBEq, reduceCtorEq, Nat.reduceMul, zg, Tryz.results24, zr6]
 refine ⟨⟨by decide, by decide⟩, ?_⟩
 refine zb.ev (e7.les (zaq.cons (VLe.refl _) (zaq.cons za3 zaq.nil))) rfl ?_
 simp only [wq.down, ↓reduceIte, Nat.reduceEqDiff, Nat.reduceLT, Nat.reduceLeDiff, Nat.reduceAdd, Nat.reduceSub, Int.reduceToNat, Nat.reduceDiv, Int.reduceLT, Int.reduceLE, Int.reduceNeg, Int.reduceBEq, Int.reduceBNe, Int.reduceAdd, Int.reduceSub, Nat.reduceBEq, reduceCtorEq, Nat.reduceMul, zg, Tryz.results24, zam]
 refine ⟨zjb, by decide, by decide, by decide, by decide, zjb, ?_⟩
 refine vm ?_
 simp only [wq.down, ↓reduceIte]
 exact zo.dat rfl
set_option maxHeartbeats 4000000 in
theorem ev_packedBack (m : Mo) (hs : m.g.Sm) : Ev TE 8 [m.v] (.bool true) := by
 have e1 := zoo m
 have e2 := zfM m hs
 have e3 := zgd m hs
 unfold zfH at e2
 unfold zmR at e3
 have dm : V.dats [m.v] = true := by simp only [Mo.v, V.dats, V.dat, Bool.and_self]
 unfold Mo.v at e1 e2 dm
 rw [show (m.v) = .agg [vi m.g.ins, zr m.g.next, zr m.g.init, prs m.g.ands, zr m.g.outs, zU m.ins, zU m.lat, zU m.out] from rfl] at e3
 refine zh Tryz.func8 rfl (by simp [nts]) ?_
 unfold Mo.v
 refine za (vm ?_)
 simp only [wq.down, Nat.reduceLT, Tryz.results8]
 refine za (vm ?_)
 simp only [wq.down, Nat.reduceLT]
 refine zb.ev zef rfl ?_
 simp only [wq.down, seval]
 refine za (vm ?_)
 simp only [wq.down, seval]
 refine za (vm ?_)
 simp only [wq.down, seval]
 refine zb.ev e1 dm ?_
 simp only [wq.down, seval]
 obtain ⟨few, hfew⟩ : ∃ few, few = m.few := ⟨_, rfl⟩
 have hlen : few = true → m.chk = 0 → (zed m.norm).length ≤ 100000 := fun h1 h2 => Nat.le_trans (zoT (hfew ▸ h1) h2) (by decide)
 rw [← hfew]
 by_cases hc : m.chk = 0
 ·rw [if_pos hc] at e2 e3
  refine za (vm ?_)
  simp only [wq.down, seval]
  refine zb.ev e2 dm ?_
  simp only [wq.down, seval]
  refine za (vm ?_)
  simp only [wq.down, seval]
  refine zb.ev e3 dm ?_
  simp only [wq.down, seval]
  cases few with
  | false =>
   refine za (vm ?_)
   simp only [wq.down, seval]
   exact zo.dat rfl
  | true =>
   have e4 := zfL (zed m.norm) (hlen rfl hc)
   unfold zaL at e4
   rw [zjw hc] at e4
   have e5 := zfM m.norm (znh hc)
   rw [zjx hc] at e5
   have e6 := zoL m.norm m.norm
   rw [zis] at e6
   have dn : V.dats [m.norm.v] = true := by simp only [Mo.v, V.dats, V.dat, Bool.and_self]
   have dn2 : V.dats [m.norm.v, m.norm.v] = true := by simp only [Mo.v, V.dats, V.dat, Bool.and_self]
   unfold Mo.v at e4 e5 e6 dn dn2
   unfold Mo.v
   refine za (vm ?_)
   simp only [wq.down, seval]
   refine za (vm ?_)
   simp only [wq.down, seval]
   refine zb.ev e4 rfl ?_
   simp only [wq.down, seval]
   refine za (vm ?_)
   simp only [wq.down, seval]
   refine zb.ev e5 dn ?_
   simp only [wq.down, seval]
   refine za (vm ?_)
   simp only [wq.down, seval]
   refine ⟨zjb, ?_⟩
   refine zb.ev e6 dn2 ?_
   simp only [wq.down, seval]
   refine vm ?_
   simp only [wq.down, ↓reduceIte]
   exact zo.dat rfl
 ·rw [if_neg hc] at e2 e3
  refine za (vm ?_)
  simp only [wq.down, seval]
  refine zb.ev e2 dm ?_
  simp only [wq.down, seval]
  refine za (vm ?_)
  simp only [wq.down, seval]
  refine zb.ev e3 dm ?_
  simp only [wq.down, seval]
  have hne : (m.chk != 0) = true := by simpa using hc
  cases few with
  | false =>
   refine za (vm ?_)
   simp only [wq.down, seval]
   exact zo.dat rfl
  | true =>
   refine za (vm ?_)
   simp only [wq.down, seval, hne]
   exact zo.dat rfl
theorem zln {g : Gr} (hg : g.chk = 0) (hd : ∀ i (h : i < g.ands.length), g.ands[i].2 ≤ g.ands[i].1) (a b : S) :
 za4 (a ++ zaC g g.ands.length ++ b) (a.length : Int) g.first (g.ands.length : Int) = (g.ands, ((a.length + (zaC g g.ands.length).length : Nat) : Int), 0) := by
 obtain ⟨_, i0, i1, i2, i3, i4, i5⟩ := zE hg
 have wf : g.first = 1 + g.ins + g.next.length := rfl
 have wa : g.all = 2 * (g.first + g.ands.length) := rfl
 obtain ⟨u1, u2⟩ := zfI (s := a ++ zaC g g.ands.length ++ b) (t := b) (GP.of hg hd) g.ands.length 0 a.length (by omega) (by
  unfold zaC; rw [zbY, List.append_assoc, List.drop_left])
 rw [List.take_zero] at u1
 unfold za4
 rw [if_neg (by omega), Int.toNat_natCast, u1]
 unfold zaC
 rw [zbY]
theorem zlo {g : Gr} (hg : g.chk = 0) (hd : ∀ i (h : i < g.ands.length), g.ands[i].2 ≤ g.ands[i].1) {c : Nat} (hc : c < (zaC g g.ands.length).length) :
 ∃ w, za4 ((zaC g g.ands.length).take c) 0 g.first (g.ands.length : Int) = ([], w, 10) := by
 obtain ⟨_, i0, i1, i2, i3, i4, i5⟩ := zE hg
 have wf : g.first = 1 + g.ins + g.next.length := rfl
 have wa : g.all = 2 * (g.first + g.ands.length) := rfl
 unfold zaC at hc ⊢
 rw [zbY] at hc ⊢
 obtain ⟨w, hw⟩ := zes (s := (zcW (zeq g) 0 g.ands.length).take c) (GP.of hg hd) g.ands.length 0 0 c [] (by omega) (by rw [List.drop_zero]) hc (by omega)
 refine ⟨w, ?_⟩
 unfold za4
 rw [if_neg (by omega), Int.toNat_natCast]
 rw [show ((0 : Nat) : Int) = 0 from rfl] at hw
 rw [hw]
theorem zo0 {n : Nat} {k : Int} (h : 0 < n) (hk : 0 ≤ k) : (Int.tmod k n).toNat < n := by
 have h1 := Int.tmod_lt_of_pos k (show (0 : Int) < n by omega)
 have h2 := Int.tmod_nonneg (n : Int) hk
 omega
set_option maxHeartbeats 8000000 in
theorem ev_packedUnands (g : Gr) (a b : S) (n : UInt8) (hs : g.Sm) : Ev TE 7 [g.v, .str a, .str b, .int .u8 n.toNat] (.bool true) := by
 have hM : maxLen = 9223372036854775807 := rfl
 have e1 := zjR g
 have e2 := zhg g hs
 unfold zlj at e2
 have dm : V.dats [g.v] = true := by simp only [Gr.v, V.dats, V.dat, Bool.and_self]
 obtain ⟨few, hfew⟩ : ∃ few, few = g.few := ⟨_, rfl⟩
 by_cases hc : g.chk = 0
 ·rw [if_pos hc] at e2
  have e3 := zfs hc
  have hx : (zaE g).chk = 0 := zar (zar hc _) _
  have hd := zcE hc
  obtain ⟨x, hxe⟩ : ∃ x, x = zaE g := ⟨_, rfl⟩
  rw [← hxe] at e2 e3 hx hd
  have hal := zdP (GP.of hx hd) x.ands.length (Nat.le_refl _)
  have u1 := zln hx hd a b
  have u2 := fun c => zlo hx hd (c := c)
  obtain ⟨A, hA⟩ : ∃ A, A = zaC x x.ands.length := ⟨_, rfl⟩
  rw [← hA] at e2 hal u1 u2
  obtain ⟨_, i0, i1, i2, i3, i4, i5⟩ := zE hx
  have wf : x.first = 1 + x.ins + x.next.length := rfl
  rw [wf] at u1 u2
  unfold Gr.v at e1 e2 e3 dm ⊢
  refine zh Tryz.func7 rfl (by simp [nts]) ?_
  refine za (vm ?_)
  simp only [wq.down, Nat.reduceLT, Tryz.results7]
  refine za (vm ?_)
  simp only [wq.down, Nat.reduceLT]
  refine zb.ev zef rfl ?_
  simp only [wq.down, seval]
  refine za (vm ?_)
  simp only [wq.down, seval]
  refine za (vm ?_)
  simp only [wq.down, seval]
  refine zb.ev e1 dm ?_
  simp only [wq.down, seval]
  rw [← hfew]
  refine za (vm ?_)
  simp only [wq.down, seval]
  refine zb.ev e2 dm ?_
  simp only [wq.down, seval]
  refine za (vm ?_)
  simp only [wq.down, seval]
  refine zb.ev e3 dm ?_
  simp only [wq.down, seval]
  cases few with
  | false =>
   refine za (vm ?_)
   simp only [wq.down, seval]
   exact zo.dat rfl
  | true =>
   by_cases h1 : (100 : Int) < a.length
   ·refine za (vm ?_)
    simp only [wq.down, seval, h1]
    exact zo.dat rfl
   by_cases h2 : (100 : Int) < b.length
   ·refine za (vm ?_)
    simp only [wq.down, seval, h1, h2]
    exact zo.dat rfl
   refine za (vm ?_)
   simp only [wq.down, seval, h1, h2]
   have e4 := zcG (a ++ A ++ b) a.length (1 + x.ins + x.next.length) x.ands.length (by simp only [List.length_append]; omega)
   rw [u1] at e4
   have e5 := zkm x.ands x.ands (by omega)
   rw [beq_self_eq_true] at e5
   have dp : V.dats [prs x.ands, prs x.ands] = true := by simp only [V.dats, V.dat, Bool.and_self]
   have w1 : IntKind.i64.wrap (1 + x.ins) = 1 + x.ins := zba (by omega) (by omega)
   have w2 : IntKind.i64.wrap (1 + x.ins + (x.next.length : Int)) = 1 + x.ins + x.next.length := zba (by omega) (by omega)
   have w3 : IntKind.i64.wrap ((a.length : Int) + A.length) = ((a.length + A.length : Nat) : Int) := by rw [zba (by omega) (by omega)]; rfl
   refine za (vm ?_)
   simp only [wq.down, seval, w1, w2]
   refine za (vm ?_)
   simp only [wq.down, seval]
   refine ⟨by omega, by omega, zb.ev e4 rfl ?_⟩
   simp only [wq.down, seval]
   refine za (vm ?_)
   simp only [wq.down, seval]
   refine zb.ev e5 dp ?_
   simp only [wq.down, seval]
   refine za (vm ?_)
   simp only [wq.down, seval, w3, bne_self_eq_false]
   by_cases hA0 : A = []
   ·subst hA0
    refine za (vm ?_)
    simp only [wq.down, seval]
    exact zo.dat rfl
   have hAb : (A == []) = false := by simpa using hA0
   have hAl : 0 < A.length := List.length_pos_iff.2 hA0
   have hn0 : (0 : Int) ≤ (n.toNat : Int) := by omega
   have hrl := zo0 hAl hn0
   obtain ⟨w, hw⟩ := u2 _ hrl
   have e6 := zcG (A.take (Int.tmod (n.toNat : Int) A.length).toNat) 0 (1 + x.ins + x.next.length) x.ands.length (by simp only [List.length_take]; omega)
   rw [hw] at e6
   refine za (vm ?_)
   simp only [wq.down, seval, hAb]
   have hnl := n.toNat_lt
   have w5 : IntKind.i64.wrap (n.toNat : Int) = (n.toNat : Int) := zba (by omega) (by omega)
   refine za (vm ?_)
   simp only [wq.down, seval, zpz, w5]
   have t1 := Int.tmod_lt_of_pos (n.toNat : Int) (show (0 : Int) < A.length by omega)
   have t2 := Int.tmod_nonneg (A.length : Int) hn0
   refine ⟨by decide +kernel, by omega, ⟨t2, by omega⟩, zhw.mk e6 rfl rfl ?_⟩
   simp only [wq.down, seval]
   refine vm ?_
   simp only [wq.down, seval]
   exact zo.dat rfl
 ·rw [if_neg hc] at e2
  have e3 := zkn hc hs
  have hcb : (g.chk != 0) = true := by simpa using hc
  unfold Gr.v at e1 e2 e3 dm ⊢
  refine zh Tryz.func7 rfl (by simp [nts]) ?_
  refine za (vm ?_)
  simp only [wq.down, Nat.reduceLT, Tryz.results7]
  refine za (vm ?_)
  simp only [wq.down, Nat.reduceLT]
  refine zb.ev zef rfl ?_
  simp only [wq.down, seval]
  refine za (vm ?_)
  simp only [wq.down, seval]
  refine za (vm ?_)
  simp only [wq.down, seval]
  refine zb.ev e1 dm ?_
  simp only [wq.down, seval]
  rw [← hfew]
  refine za (vm ?_)
  simp only [wq.down, seval]
  refine zb.ev e2 dm ?_
  simp only [wq.down, seval]
  refine za (vm ?_)
  simp only [wq.down, seval]
  refine zb.ev e3 dm ?_
  simp only [wq.down, seval]
  cases few with
  | false =>
   refine za (vm ?_)
   simp only [wq.down, seval]
   exact zo.dat rfl
  | true =>
   refine za (vm ?_)
   simp only [wq.down, seval, bne_self_eq_false, hcb]
   exact zo.dat rfl
theorem sz_gr {R : Nat} (hR : R ≤ 200000000000000) {v : V} (h : Sh.Sz R shGr v) : ∃ g : Gr, v = g.v ∧ g.Sm := by
 unfold shGr at h
 rw [Sh.Sz] at h
 obtain ⟨gs, rfl, h0⟩ := h
 simp only [Sh.Szs] at h0
 obtain ⟨g0, us, rfl, k0, g1, us, rfl, k1, g2, us, rfl, k2, g3, us, rfl, k3, g4, us, rfl, k4, rfl⟩ := h0
 obtain ⟨n, rfl, _⟩ := zia k0
 obtain ⟨a, rfl, ha⟩ := zd6 k1
 obtain ⟨b, rfl, hb⟩ := zd6 k2
 obtain ⟨c, rfl, hc⟩ := zpi k3
 obtain ⟨d, rfl, hd⟩ := zd6 k4
 exact ⟨⟨n, a, b, c, d⟩, rfl, ⟨by show a.length ≤ _; omega, by show c.length ≤ _; omega⟩⟩
theorem sz_u8 {R : Nat} {v : V} (h : Sh.Sz R (.int .u8) v) : ∃ n : UInt8, v = .int .u8 n.toNat ∧ n.toNat < 256 := by
 simp only [Sh.Sz] at h
 obtain ⟨n, rfl, hw⟩ := h
 simp [Lit.wf, IntKind.min, IntKind.max, IntKind.signed, IntKind.bits] at hw
 refine ⟨UInt8.ofNat n.toNat, ?_, UInt8.toNat_lt _⟩
 have : ((UInt8.ofNat n.toNat).toNat : Int) = n := by
  rw [UInt8.toNat_ofNat']
  omega
 rw [this]
end Go.Proofs.YtboolnpmlmgpkaaGreatDoor
