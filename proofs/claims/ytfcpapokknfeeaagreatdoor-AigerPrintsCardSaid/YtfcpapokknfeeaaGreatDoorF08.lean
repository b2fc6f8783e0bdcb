/- Lemmas for the statement of this claim, part F08: they hold with no conditions but those that each one names. -/
import Derived.Test.YtfcpapokknfeeaaGreatDoorF07
set_option linter.unusedVariables false
set_option maxRecDepth 20000
set_option linter.unusedSimpArgs false
set_option linter.unnecessarySimpa false
namespace Go.Proofs.YtfcpapokknfeeaaGreatDoor
open Go Go.Proofs Go.Abs
def bJ (C : Cl) (a : Int) : Int := if a % 2 = 1 then xE (C.getD (a / 2).toNat 0) else C.getD (a / 2).toNat 0
theorem kN {h : H} {b c : Nat} {n1 : Int} {nx ini ands outs there : V} {C : Cl} {a : Int} (h0 : 0 ≤ a) (h1 : a / 2 < C.length) (h2 : a ≤ 1000000000) (hC : ∀ x ∈ C, 0 ≤ x ∧ x ≤ 1000000)
 (hb : h[b]? = some (.cells [vi n1, nx, ini, ands, outs, there, .ls c 1 0 C.length C.length])) (hc : h[c]? = some (.cells (C.map vi))) {R : AEnd → H → (Nat → Bool) → Prop} (hr : R (.ret (vi (bJ C a))) h (fun _ => false)) : ah TE 82 [.lp b 0, vi a] h R := by
 obtain ⟨k, hk⟩ : ∃ k : Nat, a / 2 = k := ⟨(a / 2).toNat, by omega⟩;have hkl : k < C.length := by omega
 have hg : (C.map vi).getD k .any = vi C[k] := rU hkl _;have hx := hC _ (List.getElem_mem hkl);have hcv : bJ C a = if a % 2 = 1 then xE C[k] else C[k] := by unfold bJ; rw [hk, Int.toNat_natCast, aO hkl]
 have hlen : (C.map vi).length = C.length := List.length_map ..;refine ay Tryz.func82 rfl (by simp [nts]) (vm ?_);rcases Int.emod_two_eq a with hm | hm
 ·simp only [wq.1, seval, Tryz.results82, Le, Zn h0 h2, hk, hb, hc, hg, hm, Nat.mul_one, TJ hx.1 (show C[k] ≤ 1000000000 by omega)];rw [hcv, hm, if_neg (by decide)] at hr;exact ⟨⟨by omega, by omega⟩, by omega, hr⟩
 ·simp only [wq.1, seval, Tryz.results82, Le, Zn h0 h2, hk, hb, hc, hg, hm, Nat.mul_one, Fb hx.1 (show C[k] ≤ 1000000000 by omega)];rw [hcv, hm, if_pos rfl] at hr;exact ⟨⟨by omega, by omega⟩, by omega, hr⟩
theorem Cm {h : H} (hcd : dE h) {b c : Nat} {n1 : Int} {nx ini ands outs there : V} {C l : Cl} (hll : l.length ≤ 4000) (hl : ∀ a ∈ l, 0 ≤ a ∧ a / 2 < C.length ∧ a ≤ 1000000000) (hC : ∀ x ∈ C, 0 ≤ x ∧ x ≤ 1000000)
 (hb : h[b]? = some (.cells [vi n1, nx, ini, ands, outs, there, .ls c 1 0 C.length C.length])) (hc : h[c]? = some (.cells (C.map vi))) {R : AEnd → H → (Nat → Bool) → Prop}
 (hr : R (.ret (.ls h.length 1 0 l.length l.length)) (h ++ [.cells ((l.map (bJ C)).map vi)]) (fun _ => false)) : ah TE 131 [.lp b 0, aF l] h R := by
 have hM : maxLen = 9223372036854775807 := rfl;have lt : ∀ {i : Nat} {o : O}, h[i]? = some o → i < h.length := fun hi => (List.getElem?_eq_some_iff.1 hi).1;have ap : ∀ {i : Nat} {o : O} (X : H), h[i]? = some o → (h ++ X)[i]? = some o := fun X hi => by rw [List.getElem?_append_left (lt hi)]; exact hi
 have lb := lt hb;have hbn : (b == h.length) = false := by simp; omega
 refine ah.fresh ?_;refine ay Tryz.func131 rfl (by simp [nts]) ?_;refine ag (vm ?_);simp only [wq.1, Nat.reduceLT, Tryz.results131];refine ag (vm ?_);simp only [wq.1, Nat.reduceLT];refine kL 5 1 (by simp only [wq.1, ↓reduceIte]) ?_;refine vm ?_;simp only [wq.1, seval];refine aA (fun m f h' => ∃ (i : Nat) (cs : List V), m + i = l.length ∧ f.t 5 = .ls h.length 1 0 i i ∧ f.t 6 = .fn (.func 82) [.lp b 0] [] ∧ f.t 11 = aF l ∧ f.t 12 = vi l.length ∧ f.t 13 = vi i ∧ f.d = [] ∧ (∀ j, j < h.length → f.k j = false) ∧ cs = ((l.take i).map (bJ C)).map vi ∧ h' = h ++ [.cells cs]) l.length
  ⟨0, [], by simp, by simp only [wq.1, seval], by simp only [wq.1, seval], by simp only [wq.1, seval], by simp only [wq.1, seval], by simp only [wq.1, ↓reduceIte]; rfl, by simp only [wq.1], fun j hj => by simp only [wq.1], rfl, rfl⟩ ?_
 rintro m f h' ⟨i, cs, hm, h5, h6, h11, h12, h13, hd, hk, hcs, rfl⟩;have hcl : i ≤ l.length → cs.length = i := fun hi => by rw [hcs, List.length_map, List.length_map, List.length_take]; omega
 have hdc : ∀ p, V.drops p cs = cs := fun p => by rw [hcs]; exact aQ _
 have hcm := hcd.one (j := h.length) (by omega);refine vm ?_;simp only [wq.1, seval, h12, h13];refine vcB.mk (fun hlt => ?_) (fun hlt => ?_)
 ·simp only [decide_eq_true_eq, Int.ofNat_lt] at hlt;obtain ⟨o1, o2, o3⟩ := hl _ (List.getElem_mem hlt);have hg := rU hlt V.any;have hw := ak (show i < maxLen by omega);have hcl' := hcl (by omega);simp only [wq.1, seval, h5, h6, h11, h13, hg];refine ⟨⟨by omega, by omega⟩, ?_⟩;refine kN o1 o2 o3 hC (ap _ hb) (ap _ hc) ?_;simp only [wq.1, ↓reduceIte, Nat.reduceEqDiff, Nat.reduceLT, reduceCtorEq, Nat.reduceMul, h13, hd, hw, gE0, gS0, hdc, hcm];refine ⟨⟨rfl, by decide⟩, ⟨by omega, by omega, by omega⟩, .inl ⟨m - 1, by omega, i + 1, _, by omega, by simp only [wq.1, ↓reduceIte, Nat.reduceEqDiff, Nat.reduceLT, Nat.reduceLeDiff, Nat.reduceAdd, Nat.reduceSub, Int.reduceToNat, Nat.reduceDiv, Int.reduceLT, Int.reduceLE, Int.reduceNeg, Int.reduceBEq, Int.reduceBNe, Int.reduceAdd, Int.reduceSub, Nat.reduceBEq, reduceCtorEq, Nat.reduceMul, au, Tryz.results131], by simp only [wq.1, ↓reduceIte, Nat.reduceEqDiff, Nat.reduceLT, Nat.reduceLeDiff, Nat.reduceAdd, Nat.reduceSub, Int.reduceToNat, Nat.reduceDiv, Int.reduceLT, Int.reduceLE, Int.reduceNeg, Int.reduceBEq, Int.reduceBNe, Int.reduceAdd, Int.reduceSub, Nat.reduceBEq, reduceCtorEq, Nat.reduceMul, au, Tryz.results131, h6, hbn], by simp only [wq.1, ↓reduceIte, Nat.reduceEqDiff, Nat.reduceLT, Nat.reduceLeDiff, Nat.reduceAdd, Nat.reduceSub, Int.reduceToNat, Nat.reduceDiv, Int.reduceLT, Int.reduceLE, Int.reduceNeg, Int.reduceBEq, Int.reduceBNe, Int.reduceAdd, Int.reduceSub, Nat.reduceBEq, reduceCtorEq, Nat.reduceMul, au, Tryz.results131, h11], by simp only [wq.1, ↓reduceIte, Nat.reduceEqDiff, Nat.reduceLT, Nat.reduceLeDiff, Nat.reduceAdd, Nat.reduceSub, Int.reduceToNat, Nat.reduceDiv, Int.reduceLT, Int.reduceLE, Int.reduceNeg, Int.reduceBEq, Int.reduceBNe, Int.reduceAdd, Int.reduceSub, Nat.reduceBEq, reduceCtorEq, Nat.reduceMul, au, Tryz.results131, h12], by simp only [wq.1, ↓reduceIte, Nat.reduceEqDiff, Nat.reduceLT, Nat.reduceLeDiff, Nat.reduceAdd, Nat.reduceSub, Int.reduceToNat, Nat.reduceDiv, Int.reduceLT, Int.reduceLE, Int.reduceNeg, Int.reduceBEq, Int.reduceBNe, Int.reduceAdd, Int.reduceSub, Nat.reduceBEq, reduceCtorEq, Nat.reduceMul, au, Tryz.results131], by simp only [wq.1, ↓reduceIte, Nat.reduceEqDiff, Nat.reduceLT, Nat.reduceLeDiff, Nat.reduceAdd, Nat.reduceSub, Int.reduceToNat, Nat.reduceDiv, Int.reduceLT, Int.reduceLE, Int.reduceNeg, Int.reduceBEq, Int.reduceBNe, Int.reduceAdd, Int.reduceSub, Nat.reduceBEq, reduceCtorEq, Nat.reduceMul, au, Tryz.results131, hd], fun j hj => ?_, ?_, rfl⟩⟩
  ·simp only [wq.1, hk j hj];simp; omega
  ·rw [hcs, show l.take (i + 1) = l.take i ++ [l[i]] by rw [List.take_add_one, List.getElem?_eq_getElem hlt]; rfl, List.map_append, List.map_append];rfl
 ·simp only [decide_eq_false_iff_not, Int.ofNat_lt] at hlt;have hi : i = l.length := by omega
  subst hi;simp only [wq.1, seval, h5, hd];rw [List.take_length] at hcs;rw [hcs];exact ⟨hk, hr⟩
def U5 : Plan := .take 0 <| .take 1 <| .take 2 <| .take 3 <| .take 6 <| .take 7 <| .alt 4 (.alt 5 (.one 8 <| .one 9 <| .take 10 <| .take 11 <| .take 12 <| .one 13 <| .take 14 <| .take 15 <| .take 16 <| .one 17 <| .fin) (.one 8 (.one 5 <| .one 9 <| .take 10 <| .take 11 <| .take 12 <| .one 13 <| .take 14 <| .take 15 <| .take 16 <| .one 17 <| .fin))) (.one 8 (.one 4 <| .one 5 <| .one 9 <| .take 10 <| .take 11 <| .take 12 <| .one 13 <| .take 14 <| .take 15 <| .take 16 <| .one 17 <| .fin))
theorem qR {h : H} (hc : dE h) {cs : List V} (hd : ∀ p, V.drops p cs = cs) : dE (h ++ [.cells cs]) := fun p hp => by rw [List.map_append, hc p (fun i hi => hp i (by simp; omega))];show h ++ [O.cells (V.drops p cs)] = _;rw [hd]
theorem CB {h : H} (hcd : dE h) {b c J a m : Nat} {n1 : Int} {nx : Cl} {k la : Nat} {x : Gr} {outs : V} {C : Cl} (hn : x.next.length ≤ 4000) (hol : x.outs.length ≤ 4000)
 (hl : ∀ a ∈ x.next, 0 ≤ a ∧ a / 2 < C.length ∧ a ≤ 1000000000) (hl2 : ∀ a ∈ x.outs, 0 ≤ a ∧ a / 2 < C.length ∧ a ≤ 1000000000) (hC : ∀ x ∈ C, 0 ≤ x ∧ x ≤ 1000000)
 (hb : h[b]? = some (.cells [vi n1, aF nx, .ls J 1 0 k k, .ls a 2 0 la la, outs, .lm m, .ls c 1 0 C.length C.length])) (hc : h[c]? = some (.cells (C.map vi)))
 {R : AEnd → H → (Nat → Bool) → Prop}
 (hr : ∀ X Y, R (.ret (.agg [vi n1, .ls (h.length + 2) 1 0 x.next.length x.next.length, .ls J 1 0 k k, .ls a 2 0 la la, .ls (h.length + 3) 1 0 x.outs.length x.outs.length]))
  (h.set b (.cells [vi n1, .ls (h.length + 2) 1 0 x.next.length x.next.length, .ls J 1 0 k k, .ls a 2 0 la la, .ls (h.length + 3) 1 0 x.outs.length x.outs.length, .lm m, .ls c 1 0 C.length C.length]) ++ [X, Y, .cells ((x.next.map (bJ C)).map vi), .cells ((x.outs.map (bJ C)).map vi)]) (fun _ => false)) :
 ah TE 83 [.lp b 0, x.v] h R := by
 have hM : maxLen = 9223372036854775807 := rfl;have lt : ∀ {i : Nat} {o : O}, h[i]? = some o → i < h.length := fun hi => (List.getElem?_eq_some_iff.1 hi).1;have ap : ∀ {i : Nat} {o : O} (X : H), h[i]? = some o → (h ++ X)[i]? = some o := fun X hi => by rw [List.getElem?_append_left (lt hi)]; exact hi
 have lb := lt hb;unfold Gr.v;refine ah.fresh ?_;refine ay Tryz.func83 rfl (by simp [nts]) ?_;refine ag (vm ?_);simp only [wq.1, Nat.reduceLT, Tryz.results83, List.append_assoc];have c1 : dE (h ++ [.cells [vi x.ins, aF x.next, aF x.init, prs x.ands, aF x.outs], .cells [vi 0, .nils, .nils, .nils, .nils]]) := by
  have := qR (qR hcd (cs := [vi x.ins, aF x.next, aF x.init, prs x.ands, aF x.outs]) (fun p => by simp only [wq.1, V.drops, V.drop])) (cs := [vi 0, .nils, .nils, .nils, .nils]) (fun p => by simp only [wq.1, V.drops, V.drop])
  rwa [List.append_assoc] at this
 have c2 : dE (h ++ [.cells [vi x.ins, aF x.next, aF x.init, prs x.ands, aF x.outs], .cells [vi 0, .nils, .nils, .nils, .nils], .cells ((x.next.map (bJ C)).map vi)]) := by
  have := qR c1 (cs := (x.next.map (bJ C)).map vi) (fun p => aQ _)
  rwa [List.append_assoc] at this
 have hbS : ∀ (Z : O) (X : H), (h.set b Z ++ X)[b]? = some Z := fun Z X => by rw [List.getElem?_append_left (by simpa using lb), List.getElem?_set_self lb]
 have hsA : ∀ (Z : O) (X : H), (h ++ X).set b Z = h.set b Z ++ X := fun Z X => List.set_append_left _ _ lb;have hsB : ∀ (Z Y : O) (X : H), (h.set b Z ++ X).set b Y = h.set b Y ++ X := fun Z Y X => by rw [List.set_append_left _ _ (by simpa using lb), List.set_set]
 refine ag (bg mixed U5 (fun f' h' => f'.t 0 = .lp b 0 ∧ f'.t 4 = .lp (h.length + 1) 0 ∧ f'.d = [] ∧ (∀ j, j < h.length → f'.k j = false) ∧ h' = h.set b (.cells [vi n1, .ls (h.length + 2) 1 0 x.next.length x.next.length, .ls J 1 0 k k, .ls a 2 0 la la, .ls (h.length + 3) 1 0 x.outs.length x.outs.length, .lm m, .ls c 1 0 C.length C.length]) ++ [.cells [vi x.ins, aF x.next, aF x.init, prs x.ands, aF x.outs], .cells [vi 0, .nils, .nils, .nils, .nils], .cells ((x.next.map (bJ C)).map vi), .cells ((x.outs.map (bJ C)).map vi)]) (by decide +kernel) (by decide +kernel) ?_ ?_)
 ·simp only [wq.1, seval, U5, gE0]
  repeat' apply And.intro
  all_goals
   refine Cm c1 hn hl hC (ap _ hb) (ap _ hc) ?_;simp only [wq.1, seval, gE0, List.append_assoc]
   repeat' apply And.intro
  all_goals
   refine Cm c2 hol hl2 hC (ap _ hb) (ap _ hc) ?_;simp only [wq.1, seval, List.append_assoc, ap _ hb, hsA, hsB, hbS]
 ·rintro f h' ⟨k0, k4, hd, hk, rfl⟩;show awp _ _ _ _ _ _ _;have hgL : ∀ (Z : O) (X : H) (i : Nat), (h.set b Z ++ X)[h.length + i]? = X[i]? := fun Z X i => by
   rw [show h.length + i = (h.set b Z).length + i by simp]; exact gE
  have hsL : ∀ (Z : O) (X : H) (i : Nat) (y : O), (h.set b Z ++ X).set (h.length + i) y = h.set b Z ++ X.set i y := fun Z X i y => by rw [show h.length + i = (h.set b Z).length + i by simp]; exact gS
  refine vm ?_;simp only [wq.1, seval, k0, k4, hd, hbS, hgL, hsL];exact ⟨hk, hr _ _⟩
theorem mZ {l : List Pr} {i : Nat} (h : i < l.length) (d : V) : (l.map prV).getD i d = prV l[i] := jL h d
theorem Ff (l : List Pr) : Ev TE 150 [prs l] (.fn (.func 171) [] [.ip (prs l)]) := by refine ax Tryz.func150 rfl (by simp [nts]) (vm ?_);simp only [wq.1, seval, Tryz.results150];refine aG.fn aC.nil (aC.cons (aG.lp rfl (aC.dat rfl) rfl rfl (by simp [V.vc]) rfl) aC.nil)
def rW (l : List Pr) (n : Nat) : List (List V) := (List.range n).map fun j => [vi ((l.length - 1 - j : Nat) : Int), prV (l.getD (l.length - 1 - j) (0, 0))]
theorem yZ (l : List Pr) (hl : l.length ≤ 1000000) : Zl TE 171 [] [.ip (prs l)] (rW l l.length) := by
 have hM : maxLen = 9223372036854775807 := rfl;intro id h I Stop h0 step;have w0 : IntKind.i64.wrap ((l.length : Int) - 1) = (l.length : Int) - 1 := dD (by omega) (by omega);have hbl : (rW l l.length).length = l.length := by simp [rW]
 refine ay Tryz.func171 rfl (by simp [nts]) (vm ?_);simp only [wq.1, seval, Tryz.results171, w0];refine aA (fun m f h => ∃ i, m + i = l.length ∧ f.t 0 = .yd id ∧ f.t 1 = .ip (prs l) ∧ f.t 3 = vi ((l.length : Int) - 1 - i) ∧ f.d = [] ∧ f.k id = false ∧ I i h f.k) l.length ⟨0, by simp, rfl, rfl, by simp only [wq.1, ↓reduceIte]; simp, rfl, rfl, h0⟩ ?_;rintro m f h ⟨i, hm, h0, h1, h3, hd, hk, hI⟩;refine vm ?_;simp only [wq.1, seval, h3];refine vcB.mk (fun hc => ?_) (fun hc => ?_)
 ·have hc : i < l.length := by simp only [decide_eq_true_eq] at hc; omega
  obtain ⟨p, hp⟩ : ∃ p : Nat, p = l.length - 1 - i := ⟨_, rfl⟩;have hpl : p < l.length := by omega
  have e : (l.length : Int) - 1 - i = (p : Int) := by omega
  have w2 : IntKind.i64.wrap ((p : Int) - 1) = (l.length : Int) - 1 - ((i + 1 : Nat) : Int) := by rw [dD (by omega) (by omega)]; omega
  have hz : i < (rW l l.length).length := by omega
  have hg := step i h f.k hz hk hI;have he : (rW l l.length)[i] = [vi (p : Int), prV l[p]] := by simp only [rW, List.getElem_map, List.getElem_range];rw [← hp, aO hpl]
  rw [he] at hg;obtain ⟨t, n', ps, asg, body, pend, hL, hsz, hps, hw⟩ := hg;rw [e] at h3;simp only [wq.1, seval, h0, h1, h3, mZ hpl, hL];refine ⟨⟨by omega, by omega⟩, ⟨by simpa using hsz, hps⟩, pJ hw ?_⟩;intro j h' p' hp' hS;refine ⟨by simp [JL, hd], ?_⟩;cases j with
  | none => simp only [wq.1, seval, h3, Option.isNone_none, w2];refine .inl ⟨m - 1, by omega, i + 1, by omega, by simp only [wq.1, seval, h0, hp'], by simp only [wq.1, seval, h1], by simp only [wq.1, ↓reduceIte], by simp only [wq.1, hd], by simp only [wq.1, hk, hp'], by simp only [wq.1]; exact hS⟩
  | some c => simp only [wq.1, seval, hd, hp', Option.isNone_some];exact ⟨by simp [hk], .inr ⟨c, hS⟩⟩
 ·have hi : i = l.length := by simp only [decide_eq_false_iff_not] at hc; omega
  subst hi;simp only [wq.1, hd];refine ⟨hk, .inl ?_⟩;rw [hbl];exact hI
theorem qg {h : H} {g : Gr} {r n : Nat} {R : AEnd → H → (Nat → Bool) → Prop}
 (hr : R (.ret (.fn (.func 149) [] [.lp h.length 0, .lp (h.length + 1) 0])) (h ++ [.cells [vi g.ins, aF g.next, aF g.init, prs g.ands, aF g.outs], .cells [.ls r 1 0 n n]]) (fun _ => false)) : ah TE 118 [g.v, .ls r 1 0 n n] h R := by
 unfold Gr.v;refine ay Tryz.func118 rfl (by simp [nts]) (vm ?_);simp only [wq.1, seval, Tryz.results118, List.append_assoc];exact hr
def nU (v : List Bool) (l : Int) : List Bool := v.set (l / 2).toNat true
theorem lI {v : List Bool} {l : Int} : (nU v l).length = v.length := by simp [nU]
def qh (g : Gr) (v : List Bool) (n : Nat) : List Bool := ((g.next ++ g.outs).take n).foldl nU v
def og (g : Gr) (v : List Bool) : Nat → List Bool
 | 0 => v
 | k + 1 => let u := og g v k
  let p := g.ands.getD (g.ands.length - 1 - k) (0, 0)
  if u.getD (g.first + ((g.ands.length - 1 - k : Nat) : Int)).toNat false then nU (nU u p.1) p.2 else u
theorem qi {g : Gr} {v : List Bool} {n : Nat} : (qh g v n).length = v.length := by
 unfold qh
 induction (g.next ++ g.outs).take n generalizing v with
 | nil => rfl
 | cons a l ih => rw [List.foldl_cons, ih, lI]
theorem nM {g : Gr} {v : List Bool} : ∀ {k : Nat}, (og g v k).length = v.length
 | 0 => rfl
 | k + 1 => by
  unfold og;dsimp only;split
  ·rw [lI, lI, nM]
  ·exact nM
structure HV (g : Gr) (k1 k2 rr n N : Nat) (P : List Bool → H → Prop) : Prop where
 gr : ∀ v X, P v X → X[k1]? = some (.cells [vi g.ins, aF g.next, aF g.init, prs g.ands, aF g.outs])
 cl : ∀ v X, P v X → X[k2]? = some (.cells [.ls rr 1 0 n n])
 rw_ : ∀ v X, P v X → X[rr]? = some (.cells (v.map V.bool))
 len : ∀ v X, P v X → X.length = N
 vlen : ∀ v X, P v X → v.length = n
def Oi : Plan := .take 3 <| .alt 0 (.one 1 <| .one 2 <| .one 4 <| .take 5 <| .one 6 <| .take 7 <| .take 9 <| .alt 8 (.one 10 <| .one 11 <| .one 12 <| .take 13 <| .take 15 <| .alt 14 (.one 16 <| .one 17 <| .one 18 <| .one 19 <| .one 20 <| .fin) (.one 16 (.one 14 <| .one 17 <| .one 18 <| .one 19 <| .one 20 <| .fin))) (.one 10 (.one 8 <| .one 11 <| .one 12 <| .take 13 <| .take 15 <| .alt 14 (.one 16 <| .one 17 <| .one 18 <| .one 19 <| .one 20 <| .fin) (.one 16 (.one 14 <| .one 17 <| .one 18 <| .one 19 <| .one 20 <| .fin))))) (.one 1 (.alt 0 (.one 2 <| .one 4 <| .take 5 <| .one 6 <| .take 7 <| .take 9 <| .alt 8 (.one 10 <| .one 11 <| .one 12 <| .take 13 <| .take 15 <| .alt 14 (.one 16 <| .one 17 <| .one 18 <| .one 19 <| .one 20 <| .fin) (.one 16 (.one 14 <| .one 17 <| .one 18 <| .one 19 <| .one 20 <| .fin))) (.one 10 (.one 8 <| .one 11 <| .one 12 <| .take 13 <| .take 15 <| .alt 14 (.one 16 <| .one 17 <| .one 18 <| .one 19 <| .one 20 <| .fin) (.one 16 (.one 14 <| .one 17 <| .one 18 <| .one 19 <| .one 20 <| .fin))))) (.one 2 (.alt 0 (.one 4 <| .take 5 <| .one 6 <| .take 7 <| .take 9 <| .alt 8 (.one 10 <| .one 11 <| .one 12 <| .take 13 <| .take 15 <| .alt 14 (.one 16 <| .one 17 <| .one 18 <| .one 19 <| .one 20 <| .fin) (.one 16 (.one 14 <| .one 17 <| .one 18 <| .one 19 <| .one 20 <| .fin))) (.one 10 (.one 8 <| .one 11 <| .one 12 <| .take 13 <| .take 15 <| .alt 14 (.one 16 <| .one 17 <| .one 18 <| .one 19 <| .one 20 <| .fin) (.one 16 (.one 14 <| .one 17 <| .one 18 <| .one 19 <| .one 20 <| .fin))))) (.one 4 (.one 0 <| .take 5 <| .one 6 <| .take 7 <| .take 9 <| .alt 8 (.one 10 <| .one 11 <| .one 12 <| .take 13 <| .take 15 <| .alt 14 (.one 16 <| .one 17 <| .one 18 <| .one 19 <| .one 20 <| .fin) (.one 16 (.one 14 <| .one 17 <| .one 18 <| .one 19 <| .one 20 <| .fin))) (.one 10 (.one 8 <| .one 11 <| .one 12 <| .take 13 <| .take 15 <| .alt 14 (.one 16 <| .one 17 <| .one 18 <| .one 19 <| .one 20 <| .fin) (.one 16 (.one 14 <| .one 17 <| .one 18 <| .one 19 <| .one 20 <| .fin))))))))))
set_option maxHeartbeats 8000000 in
theorem oh {g : Gr} (hg : g.chk = 0) {id k1 k2 rr n N : Nat} {P : List Bool → H → Prop} (hn : (n : Int) = g.first + g.ands.length) (hv : HV g k1 k2 rr n N P) (hid : id < N)
 (hy : ∀ (v : List Bool) (X Y : H) (lit : Int), P v X → 0 ≤ lit → lit / 2 < n → YU TE id [vi lit] (X ++ Y) fun j h'' p => j = none ∧ (∀ i, p i = false) ∧ ∃ X', h'' = X' ++ Y ∧ P (nU v lit) X')
 {v0 : List Bool} {X0 : H} (h0 : P v0 X0) : ah TE 149 [.yd id, .lp k1 0, .lp k2 0] X0 fun ae h' p => (∀ i, i < N → p i = false) ∧ (∃ w, ae = .ret w) ∧ ∃ X Y, h' = X ++ Y ∧ P (og g (qh g v0 (g.next ++ g.outs).length) g.ands.length) X := by
 have hM : maxLen = 9223372036854775807 := rfl;obtain ⟨_, i0, i1, i2, i3, i4, i5⟩ := bQ hg;obtain ⟨r1, r2, r3, r4⟩ := cO i4;have wf : g.first = 1 + g.ins + g.next.length := rfl
 have wa : g.all = 2 * (g.first + g.ands.length) := rfl;have x1 := hv.gr _ _ h0;have lN := hv.len _ _ h0;have lt : ∀ {X : H} {i : Nat} {o : O}, X[i]? = some o → i < X.length := fun hi => (List.getElem?_eq_some_iff.1 hi).1;have ap : ∀ {X : H} {i : Nat} {o : O} (Y : H), X[i]? = some o → (X ++ Y)[i]? = some o := fun Y hi => by rw [List.getElem?_append_left (lt hi)]; exact hi
 have gN : ∀ {X : H}, X.length = N → ∀ (Y : H) (k : Nat), (X ++ Y)[N + k]? = Y[k]? := fun {X} hX Y k => by rw [← hX]; exact gE
 have gN0 : ∀ {X : H}, X.length = N → ∀ (Y : H), (X ++ Y)[N]? = Y[0]? := fun {X} hX Y => by rw [← hX]; exact gE0
 have sN : ∀ {A : H}, A.length = N → ∀ (Z : H) (k : Nat) (y : O), (A ++ Z).set (N + k) y = A ++ Z.set k y := fun {A} hA Z k y => by rw [← hA]; exact gS
 obtain ⟨lits, hlits⟩ : ∃ lits, lits = g.next ++ g.outs := ⟨_, rfl⟩
 have hlok : ∀ a ∈ lits, 0 ≤ a ∧ a / 2 < n := fun a ha => by
  rw [hlits] at ha;rcases List.mem_append.1 ha with ha | ha
  ·have := r3 a ha; omega
  ·have := r4 a ha; omega
 have hll : lits.length = g.next.length + g.outs.length := by rw [hlits, List.length_append]
 have hcat : EvF TE 106 [.is true 1 [aF g.next, aF g.outs]] 1 lits.length (lits.map vi) := by
  have := rF [g.next, g.outs] (by simp; omega) (by simp)
  rwa [show [g.next, g.outs].flatten = lits by rw [hlits]; simp] at this
 refine ay Tryz.func149 rfl (by simp [nts]) ?_;refine ag (vm ?_);simp only [wq.1, Nat.reduceLT, Tryz.results149, lN];refine ag (ag (bH (Q := fun xe f h => xe = .normal ∧ f.t 1 = .lp k1 0 ∧ f.t 2 = .lp k2 0 ∧ f.t 3 = .lp N 0 ∧ f.t 13 = .ls (N + 1) 1 0 lits.length lits.length ∧ f.t 14 = vi lits.length ∧ f.t 15 = vi 0 ∧ f.d = [] ∧ (∀ j, f.k j = false) ∧ h = X0 ++ [.cells [.yd id], .cells (lits.map vi)]) ?_ ?_))
 ·rintro xe f h ⟨rfl, t1, t2, t3, t13, t14, t15, hd, hk, rfl⟩;show awp _ _ _ _ _ _ _;refine bH (Q := fun xe f h => xe = .normal ∧ f.t 1 = .lp k1 0 ∧ f.t 2 = .lp k2 0 ∧ f.t 3 = .lp N 0 ∧ f.d = [] ∧ (∀ j, j < N → f.k j = false) ∧ ∃ X, P (qh g v0 lits.length) X ∧ h = X ++ [.cells [.yd id], .cells (lits.map vi)]) ?_ ?_
  ·rintro xe f h ⟨rfl, t1, t2, t3, hd, hk, X, hX, rfl⟩;show awp _ _ _ _ _ _ _;have lX := hv.len _ _ hX;have x1 := hv.gr _ _ hX;have lX0 := lX;obtain ⟨vS, hvS⟩ : ∃ vS, vS = qh g v0 lits.length := ⟨_, rfl⟩;rw [← hvS] at hX;obtain ⟨ydb, hydb⟩ : ∃ ydb : O, ydb = .cells [.yd id] := ⟨_, rfl⟩;obtain ⟨row, hrow⟩ : ∃ row : O, row = .cells (lits.map vi) := ⟨_, rfl⟩;rw [← hydb, ← hrow];have hlh : (X ++ [ydb, row]).length = N + 2 := by simp [lX]
   refine ag (bH (Q := fun xe f h => xe = .normal ∧ f.t 1 = .lp k1 0 ∧ f.t 2 = .lp k2 0 ∧ f.t 3 = .lp N 0 ∧ f.t 26 = .fn (.func 171) [] [.ip (prs g.ands)] ∧ f.d = [] ∧ (∀ j, j < N → f.k j = false) ∧ h = X ++ [ydb, row]) ?_ ?_)
   ·rintro xe f h ⟨rfl, t1, t2, t3, t26, hd, hkf, rfl⟩;show awp _ _ _ _ _ _ _;refine az ?_;refine MX (n := 50) (q := 171) (first := []) (captured := [.ip (prs g.ands)]) (by simp only [wq.1, t26]) (by simp only [wq.1, t26]) rfl (yZ g.ands (by omega)) (by intro v hv; simp only [rW, List.mem_map] at hv; obtain ⟨p, _, rfl⟩ := hv; rfl) (by decide)
     (fun L i h k => ∃ t X Y, P (og g vS i) X ∧ t 1 = .lp k1 0 ∧ t 2 = .lp k2 0 ∧ t 3 = .lp N 0 ∧ (∀ j, k j = false) ∧ h = X ++ ([ydb, row, .misc .dfd, L t .ready] ++ Y)) ?_ ?_ ?_
    ·intro L;exact ⟨f.t, X, [], hX, t1, t2, t3, fun _ => rfl, by simp⟩
    ·rintro L l i h' k hi hdrop hk0 ⟨t, X, Y, hX, t1, t2, t3, hk, rfl⟩;obtain ⟨v, hvd⟩ : ∃ v, v = og g vS i := ⟨_, rfl⟩;rw [← hvd] at hX;have lX := hv.len _ _ hX;have hia : i < g.ands.length := by simpa [rW] using hi
     obtain ⟨p, hp⟩ : ∃ p : Nat, p = g.ands.length - 1 - i := ⟨_, rfl⟩;have hpl : p < g.ands.length := by omega
     have he : (rW g.ands g.ands.length)[i] = [vi (p : Int), prV g.ands[p]] := by simp only [rW, List.getElem_map, List.getElem_range];rw [← hp, aO hpl]
     rw [he];refine ⟨t, (by rw [hlh]; exact gN lX _ 3), ?_⟩;obtain ⟨H1, hH1⟩ : ∃ H1, H1 = X ++ ([ydb, row, .misc .dfd, L t .ready] ++ Y) := ⟨_, rfl⟩;obtain ⟨M, hM1⟩ : ∃ M, M = H1.length := ⟨_, rfl⟩;have gM0 : ∀ Z : H, (H1 ++ Z)[M]? = Z[0]? := fun Z => by rw [hM1]; exact gE0
     have sM0 : ∀ (Z : H) (y : O), (H1 ++ Z).set M y = H1 ++ Z.set 0 y := fun Z y => by rw [hM1]; exact gS0
     rw [← hH1];refine vm ?_;simp only [wq.1, seval, ← hM1, gM0, sM0];rw [lX0];obtain ⟨pb, hpb⟩ : ∃ pb : O, pb = .cells [vi g.ands[p].fst, vi g.ands[p].snd] := ⟨_, rfl⟩;rw [← hpb];refine ⟨rfl, t, by rw [hH1, List.append_assoc, gN lX]; rfl, ?_⟩;obtain ⟨W, hW⟩ : ∃ W : H, W = [ydb, row, .misc .dfd, L t .busy] ++ Y := ⟨_, rfl⟩;have hWl : M = N + W.length := by rw [hM1, hH1, hW]; simp [lX]
     rw [show (H1 ++ [pb]).set (N + 3) (L t .busy) = X ++ (W ++ [pb]) by rw [hH1, List.append_assoc, sN lX, hW]; rfl];have gW : ∀ {A : H}, A.length = N → ∀ (Z : H), (A ++ (W ++ Z))[M]? = Z[0]? := fun {A} hA Z => by rw [hWl, gN hA]; exact gE0
     have gy : ∀ {A : H}, A.length = N → ∀ (Z : H), (A ++ (W ++ Z))[N]? = some (.cells [.yd id]) := fun {A} hA Z => by rw [gN0 hA, hW, hydb]; rfl
     have hvl := hv.vlen _ _ hX;have c2 := hv.cl _ _ hX;have c3 := hv.rw_ _ _ hX;have c1 := hv.gr _ _ hX;have hfst := jQ g (by omega) (by omega) (by omega);have wp : IntKind.i64.wrap (g.first + (p : Int)) = g.first + p := dD (by omega) (by omega)
     obtain ⟨o1, o2, o3, o4⟩ := fA i5 hpl;have q1 : 0 ≤ g.first + (p : Int) := by omega
     have hvn : (g.first + (p : Int)).toNat < v.length := by rw [hvl]; omega
     have key : ∀ (v : List Bool) (A : H), P v A → ∀ lit, 0 ≤ lit → lit < 2 * (g.first + (p : Int)) → ∀ Z : H, YU TE id [vi lit] (A ++ (W ++ Z)) fun j h'' p => j = none ∧ (∀ i, p i = false) ∧ ∃ X', h'' = X' ++ (W ++ Z) ∧ P (nU v lit) X' := fun v A hA lit h1 h2 Z => hy v A (W ++ Z) lit hA h1 (by omega);refine az ?_;refine ag (bg mixed Oi (fun f' h' => f'.t 1 = .lp k1 0 ∧ f'.t 2 = .lp k2 0 ∧ f'.t 3 = .lp N 0 ∧ f'.t 49 = .bool false ∧ f'.d = [] ∧ (∀ j, f'.k j = false) ∧ ∃ X', P (og g vS (i + 1)) X' ∧ h' = X' ++ (W ++ [pb])) (by decide +kernel) (by decide +kernel) ?_ ?_)
     ·have hLs : og g vS (i + 1) = if v.getD (g.first + (p : Int)).toNat false then nU (nU v g.ands[p].1) g.ands[p].2 else v := by simp only [og, ← hp, ← hvd, aO hpl]
      have hgd : ∀ (b : Bool), v.getD (g.first + (p : Int)).toNat false = b → (v.map V.bool).getD ((g.first + (p : Int)).toNat * 1) V.any = V.bool b := fun b hb => by rw [← hb, Nat.mul_one, List.getD_eq_getElem?_getD, List.getElem?_map, List.getElem?_eq_getElem hvn, aO hvn]; rfl
      have q2 : g.first + (p : Int) < n := by omega
      have q3 : (g.first + (p : Int)).toNat * 1 + 1 ≤ v.length := by omega
      cases hb : v.getD (g.first + (p : Int)).toNat false
      ·simp only [wq.1, seval, Oi, t1, t2, ap _ c1, ap _ c2, hpb]
       repeat' apply And.intro
       all_goals
        refine ah.ev hfst (by simp only [V.dats, V.dat, Bool.and_self]) ?_;simp only [wq.1, seval, t1, t2, t3, ap _ c2, ap _ c3, gW lX, gy lX, wp, hgd _ hb, q1, q2, q3, Ew];refine ⟨.bool false, .bool false, ?_⟩;simp only [wq.1, reduceCtorEq];simp only [hb, Bool.false_eq_true, if_false] at hLs;rw [hLs];exact ⟨X, hX, rfl⟩
      ·simp only [hb, if_true] at hLs;simp only [wq.1, seval, Oi, t1, t2, ap _ c1, ap _ c2, hpb]
       repeat' apply And.intro
       all_goals
        refine ah.ev hfst (by simp only [V.dats, V.dat, Bool.and_self]) ?_;obtain ⟨t', n', ps, asg, body, pend, hL, hsz, hps, hwy⟩ := key v X hX g.ands[p].1 o1 o3 [.cells [vi g.ands[p].fst, vi g.ands[p].snd]];simp only [wq.1, seval, t1, t2, t3, ap _ c2, ap _ c3, gW lX, gy lX, wp, hgd _ hb, q1, q2, q3, Ew, hL, hps]
       repeat' apply And.intro
       all_goals first
        | decide
        | (simpa using hsz)
        | skip
       all_goals
        refine pJ hwy ?_;rintro j h'' q hq ⟨rfl, hqf, X', rfl, hX'⟩;have hqf' : q = fun _ => false := funext hqf;subst hqf';refine ⟨fun i _ => rfl, ?_⟩;have lX' := hv.len _ _ hX';obtain ⟨t'', n'', ps', asg', body', pend', hL', hsz', hps', hwy'⟩ := key _ X' hX' g.ands[p].2 o2 o4 [.cells [vi g.ands[p].fst, vi g.ands[p].snd]];simp only [wq.1, seval, t1, t2, t3, gW lX', gy lX', Option.isNone_none, Ew, hL', hps']
       repeat' apply And.intro
       all_goals first
        | decide
        | (simpa using hsz')
        | skip
       all_goals
        refine pJ hwy' ?_;rintro j h'' q hq ⟨rfl, hqf, X'', rfl, hX''⟩;have hqf' : q = fun _ => false := funext hqf;subst hqf';refine ⟨fun i _ => rfl, ?_⟩;simp only [wq.1, seval, t1, t2, t3, Option.isNone_none];rw [hLs];exact ⟨X'', hX'', rfl⟩
     ·rintro f' h' ⟨u1, u2, u3, u49, ud, uk, X', hX', rfl⟩;show awp _ _ _ _ _ _ _;refine vm ?_;simp only [wq.1, u49];have lX' := hv.len _ _ hX';exact ⟨uk _, t, by rw [gN lX', hW]; rfl, t, X', Y ++ [pb], hX', t1, t2, t3, fun j => by rw [hk, uk]; rfl, by rw [sN lX', hW]; simp⟩
    ·rintro L h' k hk0 ⟨t, X, Y, hX, t1, t2, t3, hk, rfl⟩;have lX := hv.len _ _ hX;refine ⟨t, (by rw [hlh]; exact gN lX _ 3), fun j _ => hk j, ?_⟩;simp only [wq.1, Nat.reduceAdd, hd, lX0, sN lX, gN lX];refine ⟨fun j hj => by rw [hkf j hj, hk j]; rfl, ⟨_, rfl⟩, X, _, rfl, ?_⟩;have : (rW g.ands g.ands.length).length = g.ands.length := by simp [rW]
     rw [this, hvS, hll] at hX;exact hX
   ·refine vm ?_;simp only [wq.1, seval, t1, ap _ x1];refine ah.ev (Ff g.ands) (by simp only [V.dats, V.dat, Bool.and_self]) ?_;simp only [wq.1, seval, t1, t2, t3, hd];exact hk
  ·refine az ?_;refine aA (fun m f h => ∃ i, m + i = lits.length ∧ f.t 1 = .lp k1 0 ∧ f.t 2 = .lp k2 0 ∧ f.t 3 = .lp N 0 ∧ f.t 13 = .ls (N + 1) 1 0 lits.length lits.length ∧ f.t 14 = vi lits.length ∧ f.t 15 = vi i ∧ f.d = [] ∧ (∀ j, f.k j = false) ∧ ∃ X, P (qh g v0 i) X ∧ h = X ++ [.cells [.yd id], .cells (lits.map vi)]) lits.length
    ⟨0, by omega, t1, t2, t3, t13, t14, t15, hd, hk, X0, h0, rfl⟩ ?_
   rintro m f h ⟨i, hm, t1, t2, t3, t13, t14, t15, hd, hk, X, hX, rfl⟩;have lX := hv.len _ _ hX;have hlm : (lits.map vi).length = lits.length := List.length_map ..;refine vm ?_;simp only [wq.1, seval, t14, t15];refine vcB.mk (fun hlt => ?_) (fun hlt => ?_)
   ·simp only [decide_eq_true_eq, Int.ofNat_lt] at hlt;have hgi := rU hlt V.any;have hw := ak (show i < maxLen by omega);obtain ⟨o1, o2⟩ := hlok _ (List.getElem_mem hlt);obtain ⟨t, n', ps, asg, body, pend, hL, hsz, hps, hwy⟩ := hy _ X [.cells [.yd id], .cells (lits.map vi)] lits[i] hX o1 o2;simp only [wq.1, seval, t3, t13, t15, gN lX, gN0 lX, hgi, hL, Nat.mul_one];refine ⟨⟨by omega, by omega⟩, by omega, ⟨by simpa using hsz, hps⟩, pJ hwy ?_⟩;rintro j h'' p hp ⟨rfl, hpf, X', rfl, hX'⟩;have hpf' : p = fun _ => false := funext hpf;subst hpf';refine ⟨by simp [JL, hd], ?_⟩;simp only [wq.1, seval, t15, hw, Option.isNone_none];refine .inl ⟨m - 1, by omega, i + 1, by omega, by simp only [wq.1, seval, t1], by simp only [wq.1, seval, t2], by simp only [wq.1, seval, t3], by simp only [wq.1, seval, t13], by simp only [wq.1, seval, t14], by simp only [wq.1, ↓reduceIte], by simp only [wq.1, hd], fun j => by (simp only [wq.1]); simpa using hk j, X', ?_, rfl⟩;have : qh g v0 (i + 1) = nU (qh g v0 i) lits[i] := by
     unfold qh;rw [← hlits, show lits.take (i + 1) = lits.take i ++ [lits[i]] by rw [List.take_add_one, List.getElem?_eq_getElem hlt]; rfl, List.foldl_append];rfl
    rw [this];exact hX'
   ·simp only [decide_eq_false_iff_not, Int.ofNat_lt] at hlt;have hi : i = lits.length := by omega
    subst hi;simp only [wq.1, ↓reduceIte, Nat.reduceEqDiff, t1, t2, t3, hd];exact ⟨fun j _ => hk j, X, hX, rfl⟩
 ·refine vm ?_;simp only [wq.1, ↓reduceIte, Nat.reduceEqDiff, Nat.reduceLT, Nat.reduceLeDiff, Nat.reduceAdd, reduceCtorEq, Nat.reduceMul, ap _ x1];refine ⟨⟨rfl, by decide⟩, nH hcat rfl (uC _) ?_⟩;simp only [wq.1, seval, lN, List.append_assoc]
def Gr.vars (g : Gr) : Nat := 1 + g.ins.toNat + g.next.length + g.ands.length
def qB (g : Gr) : List Bool := og g (qh g (List.replicate g.vars false) (g.next ++ g.outs).length) g.ands.length
theorem sS {g : Gr} : (qB g).length = g.vars := by unfold qB; rw [nM, qi, List.length_replicate]
def U6 : Plan := .take 2 <| .alt 0 (.alt 1 (.alt 3 (.alt 4 (.alt 5 (.alt 6 (.one 7 <| .one 8 <| .fin) (.one 7 (.one 6 <| .one 8 <| .fin))) (.one 7 (.one 5 <| .one 6 <| .one 8 <| .fin))) (.one 7 (.one 4 <| .one 5 <| .one 6 <| .one 8 <| .fin))) (.one 7 (.one 3 <| .one 4 <| .one 5 <| .one 6 <| .one 8 <| .fin))) (.alt 3 (.alt 1 (.alt 4 (.alt 5 (.alt 6 (.one 7 <| .one 8 <| .fin) (.one 7 (.one 6 <| .one 8 <| .fin))) (.one 7 (.one 5 <| .one 6 <| .one 8 <| .fin))) (.one 7 (.one 4 <| .one 5 <| .one 6 <| .one 8 <| .fin))) (.alt 4 (.alt 1 (.alt 5 (.alt 6 (.one 7 <| .one 8 <| .fin) (.one 7 (.one 6 <| .one 8 <| .fin))) (.one 7 (.one 5 <| .one 6 <| .one 8 <| .fin))) (.one 7 (.one 1 <| .one 5 <| .one 6 <| .one 8 <| .fin))) (.one 7 (.alt 1 (.one 4 <| .one 5 <| .one 6 <| .one 8 <| .fin) (.one 4 (.one 1 <| .one 5 <| .one 6 <| .one 8 <| .fin)))))) (.one 7 (.alt 1 (.one 3 <| .one 4 <| .one 5 <| .one 6 <| .one 8 <| .fin) (.one 3 (.alt 1 (.one 4 <| .one 5 <| .one 6 <| .one 8 <| .fin) (.one 4 (.one 1 <| .one 5 <| .one 6 <| .one 8 <| .fin)))))))) (.alt 3 (.alt 0 (.alt 1 (.alt 4 (.alt 5 (.alt 6 (.one 7 <| .one 8 <| .fin) (.one 7 (.one 6 <| .one 8 <| .fin))) (.one 7 (.one 5 <| .one 6 <| .one 8 <| .fin))) (.one 7 (.one 4 <| .one 5 <| .one 6 <| .one 8 <| .fin))) (.alt 4 (.alt 1 (.alt 5 (.alt 6 (.one 7 <| .one 8 <| .fin) (.one 7 (.one 6 <| .one 8 <| .fin))) (.one 7 (.one 5 <| .one 6 <| .one 8 <| .fin))) (.one 7 (.one 1 <| .one 5 <| .one 6 <| .one 8 <| .fin))) (.one 7 (.alt 1 (.one 4 <| .one 5 <| .one 6 <| .one 8 <| .fin) (.one 4 (.one 1 <| .one 5 <| .one 6 <| .one 8 <| .fin)))))) (.alt 4 (.alt 0 (.alt 1 (.alt 5 (.alt 6 (.one 7 <| .one 8 <| .fin) (.one 7 (.one 6 <| .one 8 <| .fin))) (.one 7 (.one 5 <| .one 6 <| .one 8 <| .fin))) (.one 7 (.one 1 <| .one 5 <| .one 6 <| .one 8 <| .fin))) (.one 7 (.one 0 <| .one 1 <| .one 5 <| .one 6 <| .one 8 <| .fin))) (.one 7 (.alt 0 (.alt 1 (.one 4 <| .one 5 <| .one 6 <| .one 8 <| .fin) (.one 4 (.one 1 <| .one 5 <| .one 6 <| .one 8 <| .fin))) (.one 4 (.one 0 <| .one 1 <| .one 5 <| .one 6 <| .one 8 <| .fin)))))) (.one 7 (.alt 0 (.alt 1 (.one 3 <| .one 4 <| .one 5 <| .one 6 <| .one 8 <| .fin) (.one 3 (.alt 1 (.one 4 <| .one 5 <| .one 6 <| .one 8 <| .fin) (.one 4 (.one 1 <| .one 5 <| .one 6 <| .one 8 <| .fin))))) (.one 3 (.alt 0 (.alt 1 (.one 4 <| .one 5 <| .one 6 <| .one 8 <| .fin) (.one 4 (.one 1 <| .one 5 <| .one 6 <| .one 8 <| .fin))) (.one 4 (.one 0 <| .one 1 <| .one 5 <| .one 6 <| .one 8 <| .fin)))))))
set_option maxHeartbeats 8000000 in
theorem Oj {g : Gr} (hg : g.chk = 0) : EvF TE 67 [g.v] 1 g.vars ((qB g).map V.bool) := by
 have hM : maxLen = 9223372036854775807 := rfl;obtain ⟨_, i0, i1, i2, i3, i4, i5⟩ := bQ hg;have wf : g.first = 1 + g.ins + g.next.length := rfl
 have hfst := jQ g (by omega) (by omega) (by omega);obtain ⟨n, hn⟩ : ∃ n, n = g.vars := ⟨_, rfl⟩;have hnv : (n : Int) = g.first + g.ands.length := by rw [hn]; unfold Gr.vars; omega
 have wn : IntKind.i64.wrap (g.first + (g.ands.length : Int)) = (n : Int) := by rw [hnv]; exact dD (by omega) (by omega)
 unfold EvF;unfold Gr.v at hfst ⊢;rw [← hn];refine ay Tryz.func67 rfl (by simp [nts]) ?_;refine ag (vm ?_);simp only [wq.1, Nat.reduceLT, Tryz.results67];refine ag (bg mixed U6 (fun f' h' => f'.t 1 = .lp 0 0 ∧ f'.d = [] ∧ (∀ j, f'.k j = false) ∧ ((f'.t 3 = .lp 2 0 ∧ h' = [.cells [vi g.ins, aF g.next, aF g.init, prs g.ands, aF g.outs], .cells (List.replicate n (V.bool false)), .cells [.ls 1 1 0 n n]]) ∨ (f'.t 3 = .lp 1 0 ∧ h' = [.cells [vi g.ins, aF g.next, aF g.init, prs g.ands, aF g.outs], .cells [.ls 2 1 0 n n], .cells (List.replicate n (V.bool false))]))) (by decide +kernel) (by decide +kernel) ?_ ?_)
 ·simp only [wq.1, seval, U6]
  repeat' apply And.intro
  all_goals
   refine ah.ev hfst (by simp only [V.dats, V.dat, Bool.and_self]) ?_;simp only [wq.1, seval, wn]
  all_goals
   repeat' apply And.intro
  all_goals omega
 ·rintro f h' ⟨t1, hd, hk, hcase⟩;show awp _ _ _ _ _ _ _;obtain ⟨rr, kc, X0, hX0, t3, rfl, hrk⟩ : ∃ rr kc X0, h' = X0 ∧ f.t 3 = .lp kc 0 ∧ X0 = (if rr = 1 then [.cells [vi g.ins, aF g.next, aF g.init, prs g.ands, aF g.outs], .cells (List.replicate n (V.bool false)), .cells [.ls 1 1 0 n n]] else [.cells [vi g.ins, aF g.next, aF g.init, prs g.ands, aF g.outs], .cells [.ls 2 1 0 n n], .cells (List.replicate n (V.bool false))]) ∧ ((rr = 1 ∧ kc = 2) ∨ (rr = 2 ∧ kc = 1)) := by
   rcases hcase with ⟨a, b⟩ | ⟨a, b⟩
   ·exact ⟨1, 2, h', rfl, a, b, .inl ⟨rfl, rfl⟩⟩
   ·exact ⟨2, 1, h', rfl, a, b, .inr ⟨rfl, rfl⟩⟩
  clear hcase;subst hX0;rcases hrk with ⟨rfl, rfl⟩ | ⟨rfl, rfl⟩
  ·simp only [if_true];refine ag (vm ?_);simp only [wq.1, seval, t1, t3];refine qg ?_;simp only [wq.1, Nat.reduceAdd];refine xh (n := 21) (q := 149) (first := []) (captured := [.lp 3 0, .lp 4 0]) (by simp only [wq.1, ↓reduceIte]) (by simp only [wq.1, ↓reduceIte]) rfl (by decide) ?_;intro L hLd gets;refine ah.mono (oh hg (id := 6) (k1 := 3) (k2 := 4) (rr := 1) (n := n) (N := 7) (P := fun v X => ∃ t, t 3 = .lp 2 0 ∧ v.length = n ∧ X = [O.cells [vi g.ins, aF g.next, aF g.init, prs g.ands, aF g.outs], .cells (v.map V.bool), .cells [.ls 1 1 0 n n], O.cells [vi g.ins, aF g.next, aF g.init, prs g.ands, aF g.outs], .cells [.ls 1 1 0 n n], .misc .dfd, L t .ready none]) hnv ⟨?_, ?_, ?_, ?_, ?_⟩ (by omega) ?_ (v0 := List.replicate n false) ⟨_, ?_, List.length_replicate, by rw [List.map_replicate]; rfl⟩) ?_
   ·rintro v X ⟨t, ht, hl, rfl⟩; rfl
   ·rintro v X ⟨t, ht, hl, rfl⟩; rfl
   ·rintro v X ⟨t, ht, hl, rfl⟩; rfl
   ·rintro v X ⟨t, ht, hl, rfl⟩; rfl
   ·rintro v X ⟨t, ht, hl, rfl⟩; exact hl
   ·rintro v X Y lit ⟨t, ht, hl, rfl⟩ h0 h1;refine gets _ _ _ t rfl rfl (fun lb => ?_);refine vm ?_;simp only [wq.1, seval, Nc];refine ⟨t, rfl, ?_⟩;refine vm ?_;have hdv : lit.fdiv (2 ^ min 1 IntKind.i64.bits) = lit / 2 := by
     rw [show (2 : Int) ^ min 1 IntKind.i64.bits = 2 from rfl]; exact Int.fdiv_eq_ediv_of_nonneg _ (by decide)
    have hlt : (lit / 2).toNat < v.length := by rw [hl]; omega
    simp only [wq.1, seval, ht, FZ, XE.jump, hdv, Nat.mul_one, Option.isNone_none];refine ⟨⟨by omega, by omega⟩, by omega, t, _, rfl, [_, _, _, _, _, _, _], rfl, t, ht, by rw [lI, hl], ?_⟩;rw [show List.map V.bool (nU v lit) = (v.map V.bool).take (lit / 2).toNat ++ [V.bool true] ++ (v.map V.bool).drop ((lit / 2).toNat + 1) by
     unfold nU;rw [List.map_set, List.set_eq_take_append_cons_drop, if_pos (by simpa using hlt), List.append_assoc]; rfl]
   ·simp only [wq.1, seval, t3]
   ·rintro ae h' p ⟨hp, ⟨w, rfl⟩, X, Y, rfl, t, ht, hl, rfl⟩;refine ⟨?_, hp 6 (by omega), t, _, none, (by decide), rfl, ?_⟩
    ·intro i hi;have hi : i = 5 := by simpa [JL, hd] using hi
     subst hi;exact hp 5 (by omega)
    ·have k0 := hp 0 (by omega);have k1 := hp 1 (by omega);have k2 := hp 2 (by omega);have k3 := hp 3 (by omega);have k5 := hp 5 (by omega);have k6 := hp 6 (by omega);simp only [wq.1, Nat.reduceAdd, RU, hd];refine vm ?_;simp only [wq.1, seval, k2, t3];exact .inr ⟨1, n, rfl, Nat.le_refl _, by unfold qB; rw [← hn, List.length_append]; rfl⟩
  ·simp only [show ((2 : Nat) = 1) = False from by simp, if_false];refine ag (vm ?_);simp only [wq.1, seval, t1, t3];refine qg ?_;simp only [wq.1, Nat.reduceAdd];refine xh (n := 21) (q := 149) (first := []) (captured := [.lp 3 0, .lp 4 0]) (by simp only [wq.1, ↓reduceIte]) (by simp only [wq.1, ↓reduceIte]) rfl (by decide) ?_;intro L hLd gets;refine ah.mono (oh hg (id := 6) (k1 := 3) (k2 := 4) (rr := 2) (n := n) (N := 7) (P := fun v X => ∃ t, t 3 = .lp 1 0 ∧ v.length = n ∧ X = [O.cells [vi g.ins, aF g.next, aF g.init, prs g.ands, aF g.outs], .cells [.ls 2 1 0 n n], .cells (v.map V.bool), O.cells [vi g.ins, aF g.next, aF g.init, prs g.ands, aF g.outs], .cells [.ls 2 1 0 n n], .misc .dfd, L t .ready none]) hnv ⟨?_, ?_, ?_, ?_, ?_⟩ (by omega) ?_ (v0 := List.replicate n false) ⟨_, ?_, List.length_replicate, by rw [List.map_replicate]; rfl⟩) ?_
   ·rintro v X ⟨t, ht, hl, rfl⟩; rfl
   ·rintro v X ⟨t, ht, hl, rfl⟩; rfl
   ·rintro v X ⟨t, ht, hl, rfl⟩; rfl
   ·rintro v X ⟨t, ht, hl, rfl⟩; rfl
   ·rintro v X ⟨t, ht, hl, rfl⟩; exact hl
   ·rintro v X Y lit ⟨t, ht, hl, rfl⟩ h0 h1;refine gets _ _ _ t rfl rfl (fun lb => ?_);refine vm ?_;simp only [wq.1, seval, Nc];refine ⟨t, rfl, ?_⟩;refine vm ?_;have hdv : lit.fdiv (2 ^ min 1 IntKind.i64.bits) = lit / 2 := by
     rw [show (2 : Int) ^ min 1 IntKind.i64.bits = 2 from rfl]; exact Int.fdiv_eq_ediv_of_nonneg _ (by decide)
    have hlt : (lit / 2).toNat < v.length := by rw [hl]; omega
    simp only [wq.1, seval, ht, FZ, XE.jump, hdv, Nat.mul_one, Option.isNone_none];refine ⟨⟨by omega, by omega⟩, by omega, t, _, rfl, [_, _, _, _, _, _, _], rfl, t, ht, by rw [lI, hl], ?_⟩;rw [show List.map V.bool (nU v lit) = (v.map V.bool).take (lit / 2).toNat ++ [V.bool true] ++ (v.map V.bool).drop ((lit / 2).toNat + 1) by
     unfold nU;rw [List.map_set, List.set_eq_take_append_cons_drop, if_pos (by simpa using hlt), List.append_assoc]; rfl]
   ·simp only [wq.1, seval, t3]
   ·rintro ae h' p ⟨hp, ⟨w, rfl⟩, X, Y, rfl, t, ht, hl, rfl⟩;refine ⟨?_, hp 6 (by omega), t, _, none, (by decide), rfl, ?_⟩
    ·intro i hi;have hi : i = 5 := by simpa [JL, hd] using hi
     subst hi;exact hp 5 (by omega)
    ·have k0 := hp 0 (by omega);have k1 := hp 1 (by omega);have k2 := hp 2 (by omega);have k3 := hp 3 (by omega);have k5 := hp 5 (by omega);have k6 := hp 6 (by omega);simp only [wq.1, Nat.reduceAdd, RU, hd];refine vm ?_;simp only [wq.1, seval, k1, t3];exact .inr ⟨2, n, rfl, Nat.le_refl _, by unfold qB; rw [← hn, List.length_append]; rfl⟩
def kQ (f0 : Int) (u : Bool) (s : List Pr × Cl) (p : Pr) : List Pr × Cl :=
 if u then ((jd f0 s.1 (bJ s.2 p.1) (bJ s.2 p.2)).1, s.2 ++ [(jd f0 s.1 (bJ s.2 p.1) (bJ s.2 p.2)).2]) else (s.1, s.2 ++ [0])
def bC (g : Gr) (use : Nat → Bool) : Nat → List Pr × Cl
 | 0 => ([], gG g.first.toNat)
 | i + 1 => kQ g.first (use i) (bC g use i) (g.ands.getD i (0, 0))
def jh (g : Gr) (s : List Pr × Cl) : Gr := ⟨g.ins, g.next.map (bJ s.2), g.init, s.1, g.outs.map (bJ s.2)⟩
theorem WG {x k : Int} (h0 : 0 ≤ x) (h1 : x < 2 * k) : 0 ≤ xE x ∧ xE x < 2 * k := by unfold xE;split <;> omega
theorem fU {C : Cl} {k a : Int} (hk : 0 < k) (hC : ∀ x ∈ C, 0 ≤ x ∧ x < 2 * k) : 0 ≤ bJ C a ∧ bJ C a < 2 * k := by
 have hg : 0 ≤ C.getD (a / 2).toNat 0 ∧ C.getD (a / 2).toNat 0 < 2 * k := by
  by_cases hi : (a / 2).toNat < C.length
  ·rw [aO hi]; exact hC _ (List.getElem_mem hi)
  ·rw [List.getD_eq_getElem?_getD, List.getElem?_eq_none (by omega)]; exact ⟨Int.le_refl _, by simp; omega⟩
 unfold bJ;split
 ·exact WG hg.1 hg.2
 ·exact hg
theorem WH {f0 : Int} (hf : 0 < f0) {A : List Pr} {p q : Int} (hp : 0 ≤ p ∧ p < 2 * (f0 + A.length)) (hq : 0 ≤ q ∧ q < 2 * (f0 + A.length)) :
 A.length ≤ (jd f0 A p q).1.length ∧ (jd f0 A p q).1.length ≤ A.length + 1 ∧ 0 ≤ (jd f0 A p q).2 ∧ (jd f0 A p q).2 < 2 * (f0 + (jd f0 A p q).1.length) := by
 unfold jd;split
 ·exact ⟨Nat.le_refl _, Nat.le_succ _, Int.le_refl _, by simp only; omega⟩
 ·split
  ·exact ⟨Nat.le_refl _, Nat.le_succ _, by simp only; omega, by simp only; omega⟩
  ·split
   ·rename_i i hi;have hi : i < A.length := (List.findIdx?_eq_some_iff_getElem.1 hi).1;exact ⟨Nat.le_refl _, Nat.le_succ _, by simp only; omega, by simp only; omega⟩
   ·simp only [List.length_append, List.length_singleton];exact ⟨by omega, by omega, by omega, by omega⟩
theorem bV {g : Gr} (h : 0 ≤ g.ins) : 0 < g.first := by
 have : g.first = 1 + g.ins + g.next.length := rfl
 omega
theorem iO {g : Gr} (h : 0 ≤ g.ins) (use : Nat → Bool) : ∀ i, (bC g use i).1.length ≤ i ∧ (bC g use i).2.length = g.first.toNat + i ∧ ∀ x ∈ (bC g use i).2, 0 ≤ x ∧ x < 2 * (g.first + (bC g use i).1.length)
 | 0 => by have := bV h;refine ⟨Nat.le_refl _, by simp [bC, gG], fun x hx => ?_⟩;simp only [bC, gG, List.mem_map, List.mem_range] at hx;obtain ⟨k, hk, rfl⟩ := hx;simp only [bC, List.length_nil];omega
 | i + 1 => by
  have hf := bV h;obtain ⟨h1, h2, h3⟩ := iO h use i;show (kQ _ _ _ _).1.length ≤ _ ∧ (kQ _ _ _ _).2.length = _ ∧ _;show _ ∧ _ ∧ ∀ x ∈ (kQ _ _ _ _).2, 0 ≤ x ∧ x < 2 * (g.first + (kQ _ _ _ _).1.length);generalize bC g use i = s at h1 h2 h3 ⊢;generalize g.ands.getD i (0, 0) = p;unfold kQ;split
  ·obtain ⟨a1, a2, a3, a4⟩ := WH hf (fU (a := p.1) (by omega) h3) (fU (a := p.2) (by omega) h3);refine ⟨by simp only; omega, by simp only [List.length_append, List.length_singleton]; omega, fun x hx => ?_⟩;simp only [List.mem_append, List.mem_singleton] at hx;rcases hx with hx | rfl
   ·have := h3 x hx;simp only;omega
   ·exact ⟨a3, a4⟩
  ·refine ⟨by simp only; omega, by simp only [List.length_append, List.length_singleton]; omega, fun x hx => ?_⟩;simp only [List.mem_append, List.mem_singleton] at hx;rcases hx with hx | rfl
   ·exact h3 x hx
   ·exact ⟨Int.le_refl _, by simp only; omega⟩
theorem TM {f0 : Int} {A : List Pr} {p q : Int} (hp : 0 ≤ p ∧ p < 2 * (f0 + A.length)) (hq : 0 ≤ q ∧ q < 2 * (f0 + A.length))
 (hA : ∀ k (hk : k < A.length), 0 ≤ A[k].1 ∧ 0 ≤ A[k].2 ∧ A[k].1 < 2 * (f0 + k) ∧ A[k].2 < 2 * (f0 + k)) :
 ∀ k (hk : k < (jd f0 A p q).1.length), 0 ≤ (jd f0 A p q).1[k].1 ∧ 0 ≤ (jd f0 A p q).1[k].2 ∧ (jd f0 A p q).1[k].1 < 2 * (f0 + k) ∧ (jd f0 A p q).1[k].2 < 2 * (f0 + k) := by
 have : (jd f0 A p q).1 = A ∨ (jd f0 A p q).1 = A ++ [(max p q, min p q)] := by
  unfold jd;split
  ·exact .inl rfl
  ·split
   ·exact .inl rfl
   ·split
    ·exact .inl rfl
    ·exact .inr rfl
 generalize (jd f0 A p q).1 = B at this ⊢;rcases this with rfl | rfl
 ·exact hA
 ·intro k hk;by_cases hkl : k < A.length
  ·rw [List.getElem_append_left hkl]; exact hA k hkl
  ·have : k = A.length := by simp at hk; omega
   subst this;rw [List.getElem_append_right (Nat.le_refl _)];simp only [Nat.sub_self, List.getElem_cons_zero];omega
theorem xF {g : Gr} (h : 0 ≤ g.ins) (use : Nat → Bool) : ∀ i k (hk : k < (bC g use i).1.length), 0 ≤ (bC g use i).1[k].1 ∧ 0 ≤ (bC g use i).1[k].2 ∧ (bC g use i).1[k].1 < 2 * (g.first + k) ∧ (bC g use i).1[k].2 < 2 * (g.first + k)
 | 0 => fun k hk => by simp [bC] at hk
 | i + 1 => by
  have hf := bV h;obtain ⟨h1, h2, h3⟩ := iO h use i;have ih := xF h use i;show ∀ k (hk : k < (kQ g.first (use i) (bC g use i) (g.ands.getD i (0, 0))).1.length), 0 ≤ (kQ g.first (use i) (bC g use i) (g.ands.getD i (0, 0))).1[k].1 ∧ 0 ≤ (kQ g.first (use i) (bC g use i) (g.ands.getD i (0, 0))).1[k].2 ∧ (kQ g.first (use i) (bC g use i) (g.ands.getD i (0, 0))).1[k].1 < 2 * (g.first + k) ∧ (kQ g.first (use i) (bC g use i) (g.ands.getD i (0, 0))).1[k].2 < 2 * (g.first + k);generalize bC g use i = s at h1 h2 h3 ih ⊢;generalize g.ands.getD i (0, 0) = p;cases use i with
  | true => exact TM (fU (a := p.1) (by omega) h3) (fU (a := p.2) (by omega) h3) ih
  | false => exact ih
theorem iE {g : Gr} (hg : g.chk = 0) (use : Nat → Bool) : (jh g (bC g use g.ands.length)).chk = 0 := by
 obtain ⟨i, i0, i1, i2, i3, i4, i5⟩ := bQ hg;obtain ⟨r1, r2, r3, r4⟩ := cO i4;have hf := bV i0;obtain ⟨h1, h2, h3⟩ := iO i0 use g.ands.length;have h4 := xF i0 use g.ands.length;generalize bC g use g.ands.length = s at h1 h2 h3 h4 ⊢;obtain ⟨A, C⟩ := s;dsimp only at h1 h2 h3 h4;have hc := fun a => fU (C := C) (a := a) (k := g.first + A.length) (by omega) h3;have fe : (jh g (A, C)).first = g.first := by simp [jh, Gr.first]
 have ae : (jh g (A, C)).all = 2 * (g.first + A.length) := by unfold Gr.all; rw [fe]; rfl
 have l1 : (jh g (A, C)).lim = false := by show (decide (g.ins < 0) || decide (4000 < g.ins) || decide (4000 < g.ins + (g.next.map (bJ C)).length + A.length) || decide (4000 < ((g.outs.map (bJ C)).length : Int))) = false;simp only [List.length_map, Bool.or_eq_false_iff, decide_eq_false_iff_not];omega
 have l2 : (jh g (A, C)).oddR = false := by
  simp only [Gr.oddR, ae, Bool.or_eq_false_iff, bne_eq_false_iff_eq, List.any_eq_false, uF, J8, Bool.not_eq_true, decide_eq_false_iff_not];simp only [jh, List.length_map, List.mem_map];refine ⟨⟨⟨r1, fun a ha => ?_⟩, ?_⟩, ?_⟩
  ·have := r2 a ha; omega
  ·rintro a ⟨b, hb, rfl⟩; have := hc b; omega
  ·rintro a ⟨b, hb, rfl⟩; have := hc b; omega
 have l3 : (jh g (A, C)).oddAs (jh g (A, C)).ands.length = false := by
  unfold Gr.oddAs;rw [List.any_eq_false];intro k hk;have hk : k < A.length := by simpa [jh] using hk
  rw [fe];show ¬ UT (2 * (g.first + k)) (A.getD k (0, 0)) = true;rw [aO hk];have := h4 k hk;simp only [UT, Bool.or_eq_true, decide_eq_true_eq];omega
 unfold Gr.chk;rw [l1, l2, l3];rfl
end Go.Proofs.YtfcpapokknfeeaaGreatDoor
