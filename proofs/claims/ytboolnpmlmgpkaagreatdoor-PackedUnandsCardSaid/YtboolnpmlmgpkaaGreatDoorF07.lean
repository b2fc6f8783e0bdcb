/- Lemmas for the statement of this claim, part F07: they hold with no conditions but those that each one names. -/
import Derived.Test.YtboolnpmlmgpkaaGreatDoorF04
import Derived.Test.YtboolnpmlmgpkaaGreatDoorA11
set_option linter.unusedVariables false
set_option maxRecDepth 20000
set_option linter.unusedSimpArgs false
set_option linter.unnecessarySimpa false
namespace Go.Proofs.YtboolnpmlmgpkaaGreatDoor
open Go Go.Proofs Go.Abs
def ziC (a : Int) : Int := if a % 2 = 0 then a + 1 else a - 1
theorem zmM {a : Int} (h0 : 0 ≤ a) (h1 : a ≤ 1000000000) : IntKind.i64.wrap ((BitVec.ofInt IntKind.i64.bits a ^^^ BitVec.ofInt IntKind.i64.bits 1).toNat : Int) = ziC a := by
 obtain ⟨n, rfl⟩ : ∃ n : Nat, a = n := ⟨a.toNat, by omega⟩
 have e1 : (BitVec.ofInt IntKind.i64.bits (n : Int) ^^^ BitVec.ofInt IntKind.i64.bits 1).toNat = n ^^^ 1 := by
  show (BitVec.ofInt 64 (n : Int) ^^^ BitVec.ofInt 64 1).toNat = n ^^^ 1
  rw [BitVec.toNat_xor]
  have : (BitVec.ofInt 64 (n : Int)).toNat = n := by simp; omega
  rw [this]
  rfl
 have e2 : n ^^^ 1 = if n % 2 = 0 then n + 1 else n - 1 := by
  have h : (n ^^^ 1) % 2 = (n + 1) % 2 := by
   have h3 := Nat.testBit_xor n 1 0
   simp only [Nat.testBit_zero] at h3
   rcases Nat.mod_two_eq_zero_or_one n with h4 | h4 <;> rcases Nat.mod_two_eq_zero_or_one (n ^^^ 1) with h5 | h5 <;> simp [h4, h5] at h3 <;> omega
  have h2 : (n ^^^ 1) / 2 = n / 2 := by
   rw [Nat.xor_div_two]; simp
  split <;> omega
 rw [e1, e2]
 unfold ziC
 split <;> split <;> (rw [zJ (by omega) (by omega)]; omega)
theorem zor {a : Int} (h0 : 0 ≤ a) (h1 : a ≤ 1000000000) : IntKind.i64.wrap ((BitVec.ofInt IntKind.i64.bits a ^^^ BitVec.ofInt IntKind.i64.bits 0).toNat : Int) = a := by
 obtain ⟨n, rfl⟩ : ∃ n : Nat, a = n := ⟨a.toNat, by omega⟩
 have e1 : (BitVec.ofInt IntKind.i64.bits (n : Int) ^^^ BitVec.ofInt IntKind.i64.bits 0).toNat = n := by
  show (BitVec.ofInt 64 (n : Int) ^^^ BitVec.ofInt 64 0).toNat = n
  rw [BitVec.toNat_xor]
  have : (BitVec.ofInt 64 (n : Int)).toNat = n := by simp; omega
  rw [this]
  simp
 rw [e1, zJ (by omega) (by omega)]
theorem zk4 (c : Cl) (hc : c.length ≤ 1000000) : EvF TE 166 [zr c] 1 c.length (c.map vi) := by
 have hM : maxLen = 9223372036854775807 := rfl
 unfold EvF
 refine zi Tryz.func166 rfl (by simp [nts]) (vm ?_)
 simp only [wq.down, seval, Tryz.results166]
 intro b hb
 cases b with
 | true =>
  have : c = [] := by simpa using hb rfl
  subst this
  simp only [wq.down, ↓reduceIte, Nat.reduceLT, reduceCtorEq]
 | false =>
  simp only [wq.down, ↓reduceIte, Nat.reduceEqDiff, Nat.reduceLT, reduceCtorEq, Nat.reduceMul, zhS]
  exact ⟨⟨rfl, by decide⟩, ⟨by omega, by show _ ≤ _; omega⟩, .inr ⟨0, _, rfl, Nat.le_refl _, rfl⟩⟩
theorem zmN : ∀ l : List Pr, (l.flatMap fun p => [vi p.1, vi p.2]).length = l.length * 2
 | [] => rfl
 | a :: l => by rw [List.flatMap_cons, List.length_append, zmN l, List.length_cons]; simp; omega
theorem zrC {q : Nat → Bool} : ∀ l : List Pr, V.drops q (l.flatMap fun p => [vi p.1, vi p.2]) = l.flatMap fun p => [vi p.1, vi p.2]
 | [] => rfl
 | a :: l => by
  show V.drop q (vi a.1) :: V.drop q (vi a.2) :: V.drops q (l.flatMap fun p => [vi p.1, vi p.2]) = _
  rw [zrC l]; rfl
theorem zrD : ∀ l : List Pr, (l.map prV).flatMap V.vc = l.flatMap fun p => [vi p.1, vi p.2]
 | [] => rfl
 | a :: l => by rw [List.map_cons, List.flatMap_cons, zrD l]; rfl
theorem zpj : ∀ l : List Pr, zap 2 (l.map prV) = true
 | [] => rfl
 | a :: l => by simp only [List.map_cons, zap, zpj l, V.fit, V.vc]; rfl
theorem zpk : ∀ l : List Pr, V.dats (l.flatMap fun p => [vi p.1, vi p.2]) = true
 | [] => rfl
 | a :: l => by
  show (V.dat (vi a.1) && (V.dat (vi a.2) && V.dats (l.flatMap fun p => [vi p.1, vi p.2]))) = true
  rw [zpk l]; rfl
theorem gE0 {h r : H} : (h ++ r)[h.length]? = r[0]? := by rw [List.getElem?_append_right (Nat.le_refl _), Nat.sub_self]
theorem gE {h r : H} {k : Nat} : (h ++ r)[h.length + k]? = r[k]? := by rw [List.getElem?_append_right (Nat.le_add_right _ _), Nat.add_sub_cancel_left]
theorem gS0 {h r : H} {x : O} : (h ++ r).set h.length x = h ++ r.set 0 x := by rw [List.set_append_right _ _ (Nat.le_refl _), Nat.sub_self]
theorem gS {h r : H} {k : Nat} {x : O} : (h ++ r).set (h.length + k) x = h ++ r.set k x := by rw [List.set_append_right _ _ (Nat.le_add_right _ _), Nat.add_sub_cancel_left]
theorem neb {h : H} {a b : Nat} : (h.length + a == h.length + b) = (a == b) := by rw [Bool.eq_iff_iff]; simp
theorem zsN {h : H} {b : Nat} : (h.length == h.length + (b + 1)) = false := by simp
theorem zeJ {e : E} {h : H} {id len cap : Nat} {l : List Pr} (hc : h[id]? = some (.cells (l.flatMap fun p => [vi p.1, vi p.2]))) (hl : len = l.length) : zo e h (.ls id 2 0 len cap) (prs l) :=
 zo.ls hc (zl.dat (zpk l)) (zpj l) (zrD l) (by simpa using hl)
theorem zk5 {h : H} {R : AEnd → H → (Nat → Bool) → Prop} (hr : R (.ret .nils) h (fun _ => false)) : zb TE 204 [.nils] h R := by
 refine zi Tryz.func204 rfl (by simp [nts]) (vm ?_)
 simp only [wq.down, seval, Tryz.results204]
 exact hr
theorem zib {h : H} {n1 : Int} {nx ini : V} {R : AEnd → H → (Nat → Bool) → Prop} (h1 : nx.one = true) (h2 : ini.one = true) (hf1 : nx.fit = true) (hf2 : ini.fit = true)
 (hr : R (.ret (.lp (h.length + 2) 0)) (h ++ [.cells [vi n1, nx, ini, .nils, .nils], .map [] [], .cells [vi n1, nx, ini, .nils, .nils, .lm (h.length + 1), .nils]]) (fun _ => false)) :
 zb TE 165 [.agg [vi n1, nx, ini, .nils, .nils]] h R := by
 have hM : maxLen = 9223372036854775807 := rfl
 refine zi Tryz.func165 rfl (by simp [nts]) (vm ?_)
 simp only [wq.down, seval, Tryz.results165, gE0, List.append_assoc]
 refine zk5 ?_
 simp only [wq.down, seval, gE0, gE, gS]
 refine zw (fun m f h' => f.t 3 = .lp (h.length + 2) 0 ∧ f.t 21 = vi 0 ∧ f.t 22 = vi 0 ∧ f.d = [] ∧ f.k = (fun _ => false) ∧ h' = h ++ [.cells [vi n1, nx, ini, .nils, .nils], .map [] [], .cells [vi n1, nx, ini, .nils, .nils, .lm (h.length + 1), .nils]]) 0 ⟨by simp only [wq.down, seval], by simp only [wq.down, seval], by simp only [wq.down, ↓reduceIte], by simp only [wq.down], by simp only [wq.down], rfl⟩ ?_
 rintro m f h' ⟨k3, k21, k22, hd, hk, rfl⟩
 refine vm ?_
 simp only [wq.down, seval, k3, k21, k22, hd]
 rw [hk]
 exact hr
def zbU (n : Nat) : Cl := (List.range n).map fun i : Nat => 2 * (i : Int)
theorem zk6 (n : Nat) : zbU (n + 1) = zbU n ++ [2 * (n : Int)] := by unfold zbU; rw [List.range_succ, List.map_append]; rfl
theorem zcA (n : Nat) : (zbU n).length = n := by simp [zbU]
def zpl : Plan := .take 0 <| .take 2 <| .take 4 <| .alt 1 (.alt 3 (.one 5 <| .one 6 <| .one 7 <| .one 8 <| .take 9 <| .fin) (.one 5 (.alt 3 (.one 6 <| .one 7 <| .one 8 <| .take 9 <| .fin) (.one 6 (.one 3 <| .one 7 <| .one 8 <| .take 9 <| .fin))))) (.alt 3 (.alt 1 (.one 5 <| .one 6 <| .one 7 <| .one 8 <| .take 9 <| .fin) (.one 5 (.alt 1 (.one 6 <| .one 7 <| .one 8 <| .take 9 <| .fin) (.one 6 (.one 1 <| .one 7 <| .one 8 <| .take 9 <| .fin))))) (.one 5 (.alt 1 (.alt 3 (.one 6 <| .one 7 <| .one 8 <| .take 9 <| .fin) (.one 6 (.one 3 <| .one 7 <| .one 8 <| .take 9 <| .fin))) (.alt 3 (.alt 1 (.one 6 <| .one 7 <| .one 8 <| .take 9 <| .fin) (.one 6 (.one 1 <| .one 7 <| .one 8 <| .take 9 <| .fin))) (.one 6 (.alt 1 (.one 3 <| .one 7 <| .one 8 <| .take 9 <| .fin) (.one 3 (.one 1 <| .one 7 <| .one 8 <| .take 9 <| .fin))))))))
theorem zfp {h : H} (hcd : zbd h) {g : Gr} (hg : g.chk = 0) {R : AEnd → H → (Nat → Bool) → Prop}
 (hr : R (.ret (.lp (h.length + 4) 0)) (h ++ [.cells [vi g.ins, zr g.next, zr g.init, prs g.ands, zr g.outs], .cells (g.init.map vi), .cells [vi g.ins, zr g.next, .ls (h.length + 1) 1 0 g.init.length g.init.length, .nils, .nils], .map [] [], .cells [vi g.ins, zr g.next, .ls (h.length + 1) 1 0 g.init.length g.init.length, .ls (h.length + 5) 2 0 0 0, .nils, .lm (h.length + 3), .ls (h.length + 6) 1 0 g.first.toNat g.first.toNat], .cells [], .cells ((zbU g.first.toNat).map vi)]) (fun _ => false)) :
 zb TE 87 [.agg [vi g.ins, zr g.next, zr g.init, prs g.ands, zr g.outs]] h R := by
 have hM : maxLen = 9223372036854775807 := rfl
 obtain ⟨_, i0, i1, i2, i3, i4, i5⟩ := zE hg
 obtain ⟨r1, r2, r3, r4⟩ := zaj i4
 have hcl := zk4 g.init (by omega)
 refine zb.fresh ?_
 refine zi Tryz.func87 rfl (by simp [nts]) ?_
 have hfst := zcf g (by omega) (by omega) (by omega)
 obtain ⟨fn, hfn⟩ : ∃ fn : Nat, g.first = fn := ⟨g.first.toNat, by have : g.first = 1 + g.ins + g.next.length := rfl; omega⟩
 have hfl : fn ≤ 4001 := by have : g.first = 1 + g.ins + g.next.length := rfl; omega
 rw [hfn, Int.toNat_natCast] at hr
 rw [hfn] at hfst
 have dvi : ∀ p, V.drops p (g.init.map vi) = g.init.map vi := fun p => zG _
 refine za (vm ?_)
 simp only [wq.down, Nat.reduceLT, Tryz.results87]
 refine za (zO mixed zpl (fun f' h' => f'.t 1 = .lp h.length 0 ∧ f'.t 3 = .lp (h.length + 4) 0 ∧ f'.d = [] ∧ (∀ j, j < h.length → f'.k j = false) ∧ h' = h ++ [.cells [vi g.ins, zr g.next, zr g.init, prs g.ands, zr g.outs], .cells (g.init.map vi), .cells [vi g.ins, zr g.next, .ls (h.length + 1) 1 0 g.init.length g.init.length, .nils, .nils], .map [] [], .cells [vi g.ins, zr g.next, .ls (h.length + 1) 1 0 g.init.length g.init.length, .nils, .nils, .lm (h.length + 3), .nils]]) (by decide +kernel) (by decide +kernel) ?_ ?_)
 ·simp only [wq.down, seval, zpl, gE0]
  repeat' apply And.intro
  all_goals
   refine zd0 hcl rfl (zd2 _) ?_
   simp only [wq.down, seval, gE0, List.append_assoc]
   repeat' apply And.intro
  all_goals
   refine zib rfl rfl rfl rfl ?_
   simp only [wq.down, seval, List.append_assoc]
 ·rintro f h' ⟨k1, k3, hd, hk, rfl⟩
  show awp _ _ _ _ _ _ _
  refine zcc ?_
  refine zcc ?_
  simp only [wq.down, List.append_assoc]
  have hle : HLe (h ++ [.cells [vi g.ins, zr g.next, zr g.init, prs g.ands, zr g.outs], .cells (g.init.map vi), .cells [vi g.ins, zr g.next, .ls (h.length + 1) 1 0 g.init.length g.init.length, .nils, .nils], .map [] [], .cells [vi g.ins, zr g.next, .ls (h.length + 1) 1 0 g.init.length g.init.length, .nils, .nils, .lm (h.length + 3), .nils], .cells [], .cells []]) (h ++ [.cells [vi g.ins, zr g.next, zr g.init, prs g.ands, zr g.outs], .cells (g.init.map vi), .cells [vi g.ins, zr g.next, .ls (h.length + 1) 1 0 g.init.length g.init.length, .nils, .nils], .map [] [], .cells [vi g.ins, zr g.next, .ls (h.length + 1) 1 0 g.init.length g.init.length, .ls (h.length + 5) 2 0 0 0, .nils, .lm (h.length + 3), .ls (h.length + 6) 1 0 0 0], .cells [], .cells []]) := by
   have hv : zaq [vi g.ins, zr g.next, .ls (h.length + 1) 1 0 g.init.length g.init.length, .nils, .nils, .lm (h.length + 3), .nils] [vi g.ins, zr g.next, .ls (h.length + 1) 1 0 g.init.length g.init.length, .ls (h.length + 5) 2 0 0 0, .nils, .lm (h.length + 3), .ls (h.length + 6) 1 0 0 0] := zaq.cons (VLe.refl _) (zaq.cons (VLe.refl _) (zaq.cons (VLe.refl _) (zaq.cons za1 (zaq.cons (VLe.refl _) (zaq.cons (VLe.refl _) (zaq.cons za1 (zaq.refl _)))))))
   have := HLe.set (h := h ++ [.cells [vi g.ins, zr g.next, zr g.init, prs g.ands, zr g.outs], .cells (g.init.map vi), .cells [vi g.ins, zr g.next, .ls (h.length + 1) 1 0 g.init.length g.init.length, .nils, .nils], .map [] [], .cells [vi g.ins, zr g.next, .ls (h.length + 1) 1 0 g.init.length g.init.length, .nils, .nils, .lm (h.length + 3), .nils], .cells [], .cells []]) (i := h.length + 4) (o' := .cells [vi g.ins, zr g.next, .ls (h.length + 1) 1 0 g.init.length g.init.length, .ls (h.length + 5) 2 0 0 0, .nils, .lm (h.length + 3), .ls (h.length + 6) 1 0 0 0]) (o := .cells [vi g.ins, zr g.next, .ls (h.length + 1) 1 0 g.init.length g.init.length, .nils, .nils, .lm (h.length + 3), .nils]) (gE.trans rfl) (OLe.cells (Nat.le_refl _) hv)
   rw [gS] at this
   exact this
  refine zgK hle ?_
  refine vm ?_
  simp only [wq.down, seval, gE0, k1]
  refine zb.ev hfst (by simp only [V.dats, V.dat, Bool.and_self]) ?_
  simp only [wq.down, Nat.reduceLT]
  refine zw (fun m f h' => ∃ i, m + i = fn ∧ f.t 3 = .lp (h.length + 4) 0 ∧ f.t 15 = vi fn ∧ f.t 16 = vi i ∧ f.d = [] ∧ (∀ j, j < h.length → f.k j = false) ∧ h' = h ++ [.cells [vi g.ins, zr g.next, zr g.init, prs g.ands, zr g.outs], .cells (g.init.map vi), .cells [vi g.ins, zr g.next, .ls (h.length + 1) 1 0 g.init.length g.init.length, .nils, .nils], .map [] [], .cells [vi g.ins, zr g.next, .ls (h.length + 1) 1 0 g.init.length g.init.length, .ls (h.length + 5) 2 0 0 0, .nils, .lm (h.length + 3), .ls (h.length + 6) 1 0 i i], .cells [], .cells ((zbU i).map vi)]) fn ⟨0, by omega, by simp only [wq.down, seval, k3], by simp only [wq.down, seval], by simp only [wq.down, ↓reduceIte]; rfl, by simp only [wq.down, hd], fun j hj => by (simp only [wq.down]); exact hk j hj, rfl⟩ ?_
  rintro m f h' ⟨i, hm, k3, k15, k16, hd, hk, rfl⟩
  have hel := zcA i
  have hcm := hcd.one (j := h.length + 6) (by omega)
  have dve : ∀ p, V.drops p ((zbU i).map vi) = (zbU i).map vi := fun p => zG _
  refine vm ?_
  simp only [wq.down, seval, k15, k16]
  refine vcB.mk (fun hlt => ?_) (fun hlt => ?_)
  ·simp only [decide_eq_true_eq, Int.ofNat_lt] at hlt
   have hw := zm (show i < maxLen by omega)
   have w2 : IntKind.i64.wrap (2 * (i : Int)) = 2 * (i : Int) := zba (by omega) (by omega)
   simp only [wq.down, ↓reduceIte, Nat.reduceEqDiff, Nat.reduceLT, Nat.reduceAdd, Nat.reduceBEq, reduceCtorEq, Nat.reduceMul, gE, gS, k3, k16, hd, hw, w2, dvi, dve, hcm, neb]
   refine ⟨⟨rfl, by decide⟩, ⟨by omega, by omega, by omega⟩, .inl ⟨m - 1, by omega, i + 1, by omega, by simp only [wq.down, ↓reduceIte, Nat.reduceEqDiff, Nat.reduceLT, Nat.reduceLeDiff, Nat.reduceAdd, Nat.reduceSub, Int.reduceToNat, Nat.reduceDiv, Int.reduceLT, Int.reduceLE, Int.reduceNeg, Int.reduceBEq, Int.reduceBNe, Int.reduceAdd, Int.reduceSub, Nat.reduceBEq, reduceCtorEq, Nat.reduceMul, zg, Tryz.results87, k3, neb, zsN], by simp only [wq.down, ↓reduceIte, Nat.reduceEqDiff, Nat.reduceLT, Nat.reduceLeDiff, Nat.reduceAdd, Nat.reduceSub, Int.reduceToNat, Nat.reduceDiv, Int.reduceLT, Int.reduceLE, Int.reduceNeg, Int.reduceBEq, Int.reduceBNe, Int.reduceAdd, Int.reduceSub, Nat.reduceBEq, reduceCtorEq, Nat.reduceMul, zg, Tryz.results87, k15], by simp only [wq.down, ↓reduceIte, Nat.reduceEqDiff, Nat.reduceLT, Nat.reduceLeDiff, Nat.reduceAdd, Nat.reduceSub, Int.reduceToNat, Nat.reduceDiv, Int.reduceLT, Int.reduceLE, Int.reduceNeg, Int.reduceBEq, Int.reduceBNe, Int.reduceAdd, Int.reduceSub, Nat.reduceBEq, reduceCtorEq, Nat.reduceMul, zg, Tryz.results87], by simp only [wq.down, ↓reduceIte, Nat.reduceEqDiff, Nat.reduceLT, Nat.reduceLeDiff, Nat.reduceAdd, Nat.reduceSub, Int.reduceToNat, Nat.reduceDiv, Int.reduceLT, Int.reduceLE, Int.reduceNeg, Int.reduceBEq, Int.reduceBNe, Int.reduceAdd, Int.reduceSub, Nat.reduceBEq, reduceCtorEq, Nat.reduceMul, zg, Tryz.results87, hd], fun j hj => ?_, ?_⟩⟩
   ·simp only [wq.down, hk j hj]
    simp; omega
   ·rw [zk6, List.map_append]; rfl
  ·simp only [decide_eq_false_iff_not, Int.ofNat_lt] at hlt
   have hi : i = fn := by omega
   subst hi
   simp only [wq.down, seval, k3, hd]
   exact ⟨hk, hr⟩
abbrev fl (l : List Pr) : List V := l.flatMap fun p => [vi p.1, vi p.2]
def zje (f : Int) (n : Nat) : List V := (List.range n).map fun i : Nat => vi (2 * (f + (i : Int)))
theorem zmO (f : Int) (n : Nat) : zje f (n + 1) = zje f n ++ [vi (2 * (f + (n : Int)))] := by unfold zje; rw [List.range_succ, List.map_append]; rfl
theorem zos {f : Int} {n i : Nat} (h : i < n) (d : V) : (zje f n).getD i d = vi (2 * (f + (i : Int))) := by simp [zje, List.getD_eq_getElem?_getD, h]
abbrev bo (n1 : Int) (nx : Cl) (J k a la : Nat) (outs : V) (m c lc : Nat) : O := .cells [vi n1, zr nx, .ls J 1 0 k k, .ls a 2 0 la la, outs, .lm m, .ls c 1 0 lc lc]
def zdk (f : Int) (A : List Pr) (p q : Int) : List Pr × Int :=
 if min p q = 0 ∨ ziC (max p q) = min p q then (A, 0) else if min p q = 1 ∨ max p q = min p q then (A, max p q) else
  match A.findIdx? (· == (max p q, min p q)) with
  | some i => (A, 2 * (f + (i : Int)))
  | none => (A ++ [(max p q, min p q)], 2 * (f + (A.length : Int)))
theorem zic (k : Pr) : ∀ (ks : List Pr), zbo (.arr 2 3 (some .i64)) (prV k) (ks.map prV) = some (ks.findIdx? (· == k))
 | [] => rfl
 | x :: ks => by
  have hk : keq (.arr 2 3 (some .i64)) (prV k) (prV x) = some (x == k) := by
   show (if 2 = 2 ∧ IntKind.i64 = .i64 ∧ IntKind.i64 = .i64 ∧ IntKind.i64 = .i64 ∧ IntKind.i64 = .i64 then some ((k.1 == x.1) && (k.2 == x.2)) else none) = _
   rw [if_pos ⟨rfl, rfl, rfl, rfl, rfl⟩]
   congr 1
   rw [Bool.eq_iff_iff]
   simp only [Bool.and_eq_true, beq_iff_eq]
   constructor
   ·rintro ⟨h1, h2⟩; exact Prod.ext h1.symm h2.symm
   ·rintro rfl; exact ⟨rfl, rfl⟩
  rw [List.map_cons, zbo, hk, List.findIdx?_cons]
  cases hx : x == k with
  | true => rfl
  | false =>
   rw [zic k ks]
   cases ks.findIdx? (· == k) <;> rfl
theorem zot {h : H} {D : Nat → Bool} {b : Nat} {x : O} (hd : ∀ i o, h[i]? = some o → i ≠ b → o.drop D = o) : (h.map (O.drop D)).set b x = h.set b x := by
 refine List.ext_getElem? fun i => ?_
 by_cases hi : b = i
 ·subst hi
  by_cases hl : b < h.length
  ·rw [List.getElem?_set_self (by simpa using hl), List.getElem?_set_self hl]
  ·rw [List.getElem?_eq_none (by simp; omega), List.getElem?_eq_none (by simp; omega)]
 ·rw [List.getElem?_set_ne hi, List.getElem?_set_ne hi, List.getElem?_map]
  cases ho : h[i]? with
  | none => rfl
  | some o => simp [hd i o ho (Ne.symm hi)]
def zjS : Plan := .take 0 <| .take 1 <| .take 2 <| .take 5 <| .take 6 <| .take 7 <| .take 8 <| .alt 3 (.alt 4 (.one 9 <| .one 10 <| .one 11 <| .one 12 <| .take 13 <| .fin) (.one 9 (.alt 4 (.one 10 <| .one 11 <| .one 12 <| .take 13 <| .fin) (.one 10 (.one 4 <| .one 11 <| .one 12 <| .take 13 <| .fin))))) (.one 9 (.alt 3 (.alt 4 (.one 10 <| .one 11 <| .one 12 <| .take 13 <| .fin) (.one 10 (.one 4 <| .one 11 <| .one 12 <| .take 13 <| .fin))) (.one 10 (.one 3 <| .one 4 <| .one 11 <| .one 12 <| .take 13 <| .fin))))
def zjT : Plan := .take 0 <| .take 1 <| .take 2 <| .take 3 <| .take 4 <| .alt 5 (.one 6 <| .one 7 <| .one 8 <| .take 9 <| .take 10 <| .take 11 <| .one 12 <| .fin) (.one 6 (.alt 5 (.one 7 <| .one 8 <| .take 9 <| .take 10 <| .take 11 <| .one 12 <| .fin) (.one 7 (.one 5 <| .one 8 <| .take 9 <| .take 10 <| .take 11 <| .one 12 <| .fin))))
def zjU : Plan := .take 0 <| .take 1 <| .take 2 <| .take 5 <| .alt 3 (.one 4 <| .one 6 <| .fin) (.one 4 (.one 3 <| .one 6 <| .fin))
set_option maxHeartbeats 8000000 in
theorem zid {h : H} {b a J m c lc : Nat} {n1 : Int} {nx ini : Cl} {A : List Pr} {f0 : Int} {p q : Int} (hf : f0 = 1 + n1 + nx.length) (i0 : 0 ≤ n1) (i1 : n1 ≤ 4000) (i2 : nx.length ≤ 4000) (i3 : ini.length ≤ 4000) (i4 : A.length ≤ 4000)
 (p0 : 0 ≤ p) (p1 : p ≤ 100000) (q0 : 0 ≤ q) (q1 : q ≤ 100000)
 (hb : h[b]? = some (bo n1 nx J ini.length a A.length .nils m c lc)) (hj : h[J]? = some (.cells (ini.map vi))) (ha : h[a]? = some (.cells (fl A))) (hm : h[m]? = some (.map (A.map prV) (zje f0 A.length)))
 (hdr : ∀ i o, h[i]? = some o → i ≠ b → o.drop (· == a) = o) (hba : b ≠ a) (hca : c ≠ a) (hJa : J ≠ a) {R : AEnd → H → (Nat → Bool) → Prop}
 (hr : ∀ X, R (.ret (vi (zdk f0 A p q).2)) (((h.set b (bo n1 nx J ini.length a (zdk f0 A p q).1.length .nils m c lc)).set a (.cells (fl (zdk f0 A p q).1))).set m (.map ((zdk f0 A p q).1.map prV) (zje f0 (zdk f0 A p q).1.length)) ++ X) (fun i => i == a)) :
 zb TE 88 [.lp b 0, vi p, vi q] h R := by
 have hM : maxLen = 9223372036854775807 := rfl
 have same : ((h.set b (bo n1 nx J ini.length a A.length .nils m c lc)).set a (.cells (fl A))).set m (.map (A.map prV) (zje f0 A.length)) = h := by
  have s1 : ∀ {i : Nat} {o : O}, h[i]? = some o → h.set i o = h := fun {i o} hi => by
   obtain ⟨hl, rfl⟩ := List.getElem?_eq_some_iff.1 hi
   exact List.set_getElem_self hl
  rw [s1 hb, s1 ha, s1 hm]
 obtain ⟨P, hP⟩ : ∃ P, P = max p q := ⟨_, rfl⟩
 obtain ⟨Q, hQ⟩ : ∃ Q, Q = min p q := ⟨_, rfl⟩
 have bP : 0 ≤ P ∧ P ≤ 100000 ∧ 0 ≤ Q ∧ Q ≤ 100000 := by omega
 have hxo := zmM (a := P) (by omega) (by omega)
 have hav : zdk f0 A p q = if Q = 0 ∨ ziC P = Q then (A, 0) else if Q = 1 ∨ P = Q then (A, P) else match A.findIdx? (· == (P, Q)) with
  | some i => (A, 2 * (f0 + (i : Int)))
  | none => (A ++ [(P, Q)], 2 * (f0 + (A.length : Int))) := by rw [hP, hQ]; rfl
 obtain ⟨r, hrv⟩ : ∃ r, r = zdk f0 A p q := ⟨_, rfl⟩
 rw [← hrv] at hr hav
 have early : ∀ v, r = (A, v) → ∀ X, R (.ret (vi v)) (h ++ X) (fun i => i == a) := fun v hv X => by
  have := hr X
  rw [hv] at this
  simp only at this
  rwa [same] at this
 refine zb.kp (fun i => i == a) ?_
 refine zi Tryz.func88 rfl (by simp [nts]) ?_
 refine za (vm ?_)
 simp only [wq.down, Nat.reduceLT, Tryz.results88]
 refine za (vm ?_)
 simp only [wq.down, seval, mx, mn]
 rw [← hP, ← hQ]
 cases e1 : Q == 0 with
 | true =>
  refine za (vm ?_)
  simp only [wq.down, seval, e1]
  have := early 0 (by rw [hav, if_pos (.inl (by simpa using e1))]) []
  rw [List.append_nil] at this
  exact this
 | false =>
 cases e2 : ziC P == Q with
 | true =>
  refine za (vm ?_)
  simp only [wq.down, seval, e1, e2, hxo]
  have := early 0 (by rw [hav, if_pos (.inr (by simpa using e2))]) []
  rw [List.append_nil] at this
  exact this
 | false =>
 have n1' : ¬ (Q = 0 ∨ ziC P = Q) := by
  simp only [beq_eq_false_iff_ne, ne_eq] at e1 e2
  rintro (h | h)
  ·exact e1 h
  ·exact e2 h
 rw [if_neg n1'] at hav
 cases e3 : Q == 1 with
 | true =>
  refine za (vm ?_)
  simp only [wq.down, seval, e1, e2, e3, hxo]
  have := early P (by rw [hav, if_pos (.inl (by simpa using e3))]) []
  rw [List.append_nil] at this
  exact this
 | false =>
 cases e4 : P == Q with
 | true =>
  refine za (vm ?_)
  simp only [wq.down, seval, e1, e2, e3, e4, hxo]
  have := early P (by rw [hav, if_pos (.inr (by simpa using e4))]) []
  rw [List.append_nil] at this
  exact this
 | false =>
 have n2' : ¬ (Q = 1 ∨ P = Q) := by
  simp only [beq_eq_false_iff_ne, ne_eq] at e3 e4
  rintro (h | h)
  ·exact e3 h
  ·exact e4 h
 rw [if_neg n2'] at hav
 have lt : ∀ {i : Nat} {o : O}, h[i]? = some o → i < h.length := fun hi => (List.getElem?_eq_some_iff.1 hi).1
 have lb := lt hb
 have la := lt ha
 have lj := lt hj
 have lm := lt hm
 have ap : ∀ {i : Nat} {o : O} (X : H), h[i]? = some o → (h ++ X)[i]? = some o := fun X hi => by rw [List.getElem?_append_left (lt hi)]; exact hi
 have hbX := ap [.cells [vi P, vi Q]] hb
 have haX := ap [.cells [vi P, vi Q]] ha
 have hjX := ap [.cells [vi P, vi Q]] hj
 have hmX := ap [.cells [vi P, vi Q]] hm
 have hfi := zic (P, Q) A
 refine za (vm ?_)
 simp only [wq.down, seval, e1, e2, e3, e4, hxo]
 refine za (vm ?_)
 simp only [wq.down, seval, gE0, gS0]
 cases hfx : A.findIdx? (· == (P, Q)) with
 | some i =>
  rw [hfx] at hav hfi
  have hi : i < A.length := (List.findIdx?_eq_some_iff_getElem.1 hfx).1
  refine za (vm ?_)
  simp only [wq.down, seval, gE0, hbX, hmX, zjz, hfi, K.keyOk, zos hi]
  refine ⟨by decide +kernel, ?_⟩
  exact early _ hav [.cells [vi P, vi Q]]
 | none =>
  rw [hfx] at hav hfi
  have hge := fun (h' : H) (h1 : h'[J]? = some (.cells (ini.map vi))) (h2 : h'[a]? = some (.cells (fl A))) => (zo.agg (zl.cons (zo.dat rfl) (zl.cons (zo.dat zsM) (zl.cons (zaH h1 rfl) (zl.cons (zeJ h2 rfl) (zl.cons zo.nils zl.nil))))) : zo TE h' (.agg [vi n1, zr nx, .ls J 1 0 ini.length ini.length, .ls a 2 0 A.length A.length, .nils]) (Gr.v ⟨n1, nx, ini, A, []⟩))
  have hfst := zcf ⟨n1, nx, ini, A, []⟩ (by show _ ≤ n1; omega) (by show n1 ≤ _; omega) (by show nx.length ≤ _; omega)
  have hfe : Gr.first ⟨n1, nx, ini, A, []⟩ = f0 := hf.symm
  rw [hfe] at hfst
  have w1 : IntKind.i64.wrap (f0 + (A.length : Int)) = f0 + A.length := zba (by omega) (by omega)
  have w2 : IntKind.i64.wrap (2 * (f0 + (A.length : Int))) = 2 * (f0 + A.length) := zba (by omega) (by omega)
  refine za (vm ?_)
  simp only [wq.down, seval, gE0, hbX, hmX, zjz, hfi, K.keyOk]
  refine ⟨by decide +kernel, ?_⟩
  refine za (zO mixed zjS (fun f' h' => f'.t 0 = .lp b 0 ∧ f'.t 7 = .lp h.length 0 ∧ f'.t 10 = vi (2 * (f0 + A.length)) ∧ f'.d = [] ∧ (∀ j, f'.k j = false) ∧ h' = h ++ [.cells [vi P, vi Q]]) (by decide +kernel) (by decide +kernel) ?_ ?_)
  ·simp only [wq.down, seval, zjS, hbX]
   repeat' apply And.intro
   all_goals
    refine zb.lend hfst (zl.cons (hge _ hjX haX) zl.nil) rfl ?_
    simp only [wq.down, seval, hbX, w1, w2]
  ·rintro f h' ⟨k0, k7, k10, hd, hk, rfl⟩
   show awp _ _ _ _ _ _ _
   have hne0 : (h.length == a) = false := by simp; omega
   have hma : m ≠ a := fun e => by rw [e, ha] at hm; cases hm
   have hba' : (b == a) = false := by simpa using hba
   have hbD : ∀ (Y : H) (X : O), ((h.map (O.drop (fun x => x == a)) ++ Y).set a X)[b]? = some (.cells [vi n1, zr nx, .ls J 1 0 ini.length ini.length, .any, .nils, .lm m, .ls c 1 0 lc lc]) := fun Y X => by
    rw [List.getElem?_set_ne (Ne.symm hba), List.getElem?_append_left (by simpa using lb), List.getElem?_map, hb]
    simp only [wq.down, ↓reduceIte, O.drop, V.drops, V.drop, show (J == a) = false by simpa using hJa, show (c == a) = false by simpa using hca, show (m == a) = false by simpa using hma]
   refine za (zO mixed zjT (fun f' h' => f'.t 0 = .lp b 0 ∧ f'.t 7 = .lp h.length 0 ∧ f'.t 10 = vi (2 * (f0 + A.length)) ∧ f'.d = [] ∧ (∀ j, f'.k j = true → j = a) ∧ h' = ((h.set b (bo n1 nx J ini.length a (A.length + 1) .nils m c lc)).set a (.cells (fl (A ++ [(P, Q)])))) ++ [.cells [vi P, vi Q]]) (by decide +kernel) (by decide +kernel) ?_ ?_)
   ·simp only [wq.down, seval, zjT, gE0, hbX, haX, k0, k7, k10, hd, hne0, hba']
    repeat' apply And.intro
    all_goals first
     | rfl
     | decide
     | exact zmN A
     | omega
     | (show _ ≤ _; omega)
     | skip
    all_goals
     rw [hbD]
     refine ⟨by simp, fun j hj => ?_, ?_⟩
     ·rw [hk j, Bool.false_or, beq_iff_eq] at hj
      exact hj
     ·have e1 : V.drops (fun x => x == a) (fl A) ++ V.drops (fun x => x == a) (List.flatMap V.vc [V.agg [vi P, vi Q]]) = fl (A ++ [(P, Q)]) := by
       rw [zrC]
       show fl A ++ [vi P, vi Q] = fl (A ++ [(P, Q)])
       simp only [fl, List.flatMap_append, List.flatMap_cons, List.flatMap_nil, List.append_nil]
      rw [e1, List.set_append_left _ _ (by simpa using la), List.set_append_left _ _ (by simpa using lb), List.set_comm _ _ (Ne.symm hba), zot hdr]
      rfl
   ·rintro f h' ⟨k0, k7, k10, hd, hk, rfl⟩
    show awp _ _ _ _ _ _ _
    obtain ⟨A', hA'⟩ : ∃ A', A' = A ++ [(P, Q)] := ⟨_, rfl⟩
    have lA' : A'.length = A.length + 1 := by rw [hA']; simp
    rw [← hA'] at hav ⊢
    have j1 : ((h.set b (bo n1 nx J ini.length a (A.length + 1) .nils m c lc)).set a (.cells (fl A')) ++ [.cells [vi P, vi Q]])[b]? = some (bo n1 nx J ini.length a (A.length + 1) .nils m c lc) := by
     rw [List.getElem?_append_left (by simpa using lb), List.getElem?_set_ne (Ne.symm hba), List.getElem?_set_self lb]
    have hmb : m ≠ b := fun e => by rw [e, hb] at hm; cases hm
    have j2 : ((h.set b (bo n1 nx J ini.length a (A.length + 1) .nils m c lc)).set a (.cells (fl A')) ++ [.cells [vi P, vi Q]])[m]? = some (.map (A.map prV) (zje f0 A.length)) := by
     rw [List.getElem?_append_left (by simpa using lm), List.getElem?_set_ne (Ne.symm hma), List.getElem?_set_ne (Ne.symm hmb)]; exact hm
    have j3 : ((h.set b (bo n1 nx J ini.length a (A.length + 1) .nils m c lc)).set a (.cells (fl A')) ++ [.cells [vi P, vi Q]])[h.length]? = some (.cells [vi P, vi Q]) := by
     rw [show h.length = ((h.set b (bo n1 nx J ini.length a (A.length + 1) .nils m c lc)).set a (.cells (fl A'))).length by simp, List.getElem?_append_right (Nat.le_refl _), Nat.sub_self]
     rfl
    refine za (zO mixed zjU (fun f' h' => f'.t 10 = vi (2 * (f0 + A.length)) ∧ f'.d = [] ∧ (∀ j, f'.k j = true → j = a) ∧ h' = ((h.set b (bo n1 nx J ini.length a (A.length + 1) .nils m c lc)).set a (.cells (fl A'))).set m (.map (A'.map prV) (zje f0 A'.length)) ++ [.cells [vi P, vi Q]]) (by decide +kernel) (by decide +kernel) ?_ ?_)
    ·simp only [wq.down, seval, zjU, k0, k7, k10, hd, j1, j2, j3, zqP, hfi, K.keyOk]
     repeat' apply And.intro
     all_goals first
      | exact hk
      | (rw [List.set_append_left _ _ (by simpa using lm), hA', List.length_append, List.length_singleton, zmO, List.map_append]
         rfl)
    ·rintro f h' ⟨k10, hd, hk, rfl⟩
     show awp _ _ _ _ _ _ _
     refine vm ?_
     simp only [wq.down, seval, k10, hd]
     have := hr [.cells [vi P, vi Q]]
     rw [hav] at this
     simp only [lA'] at this ⊢
     exact ⟨fun i hi => by simpa using hk i hi, this⟩
def zaa (C : Cl) (a : Int) : Int := if a % 2 = 1 then ziC (C.getD (a / 2).toNat 0) else C.getD (a / 2).toNat 0
theorem zbV {h : H} {b c : Nat} {n1 : Int} {nx ini ands outs there : V} {C : Cl} {a : Int} (h0 : 0 ≤ a) (h1 : a / 2 < C.length) (h2 : a ≤ 1000000000) (hC : ∀ x ∈ C, 0 ≤ x ∧ x ≤ 1000000)
 (hb : h[b]? = some (.cells [vi n1, nx, ini, ands, outs, there, .ls c 1 0 C.length C.length])) (hc : h[c]? = some (.cells (C.map vi))) {R : AEnd → H → (Nat → Bool) → Prop} (hr : R (.ret (vi (zaa C a))) h (fun _ => false)) : zb TE 89 [.lp b 0, vi a] h R := by
 obtain ⟨k, hk⟩ : ∃ k : Nat, a / 2 = k := ⟨(a / 2).toNat, by omega⟩
 have hkl : k < C.length := by omega
 have hg : (C.map vi).getD k .any = vi C[k] := ziY hkl _
 have hx := hC _ (List.getElem_mem hkl)
 have hcv : zaa C a = if a % 2 = 1 then ziC C[k] else C[k] := by unfold zaa; rw [hk, Int.toNat_natCast, zt hkl]
 have hlen : (C.map vi).length = C.length := List.length_map ..
 refine zi Tryz.func89 rfl (by simp [nts]) (vm ?_)
 rcases Int.emod_two_eq a with hm | hm
 ·simp only [wq.down, seval, Tryz.results89, zsB, zsA h0 h2, hk, hb, hc, hg, hm, Nat.mul_one, zor hx.1 (show C[k] ≤ 1000000000 by omega)]
  rw [hcv, hm, if_neg (by decide)] at hr
  exact ⟨⟨by omega, by omega⟩, by omega, hr⟩
 ·simp only [wq.down, seval, Tryz.results89, zsB, zsA h0 h2, hk, hb, hc, hg, hm, Nat.mul_one, zmM hx.1 (show C[k] ≤ 1000000000 by omega)]
  rw [hcv, hm, if_pos rfl] at hr
  exact ⟨⟨by omega, by omega⟩, by omega, hr⟩
theorem zie {h : H} (hcd : zbd h) {b c : Nat} {n1 : Int} {nx ini ands outs there : V} {C l : Cl} (hll : l.length ≤ 4000) (hl : ∀ a ∈ l, 0 ≤ a ∧ a / 2 < C.length ∧ a ≤ 1000000000) (hC : ∀ x ∈ C, 0 ≤ x ∧ x ≤ 1000000)
 (hb : h[b]? = some (.cells [vi n1, nx, ini, ands, outs, there, .ls c 1 0 C.length C.length])) (hc : h[c]? = some (.cells (C.map vi))) {R : AEnd → H → (Nat → Bool) → Prop}
 (hr : R (.ret (.ls h.length 1 0 l.length l.length)) (h ++ [.cells ((l.map (zaa C)).map vi)]) (fun _ => false)) : zb TE 167 [.lp b 0, zr l] h R := by
 have hM : maxLen = 9223372036854775807 := rfl
 have lt : ∀ {i : Nat} {o : O}, h[i]? = some o → i < h.length := fun hi => (List.getElem?_eq_some_iff.1 hi).1
 have ap : ∀ {i : Nat} {o : O} (X : H), h[i]? = some o → (h ++ X)[i]? = some o := fun X hi => by rw [List.getElem?_append_left (lt hi)]; exact hi
 have lb := lt hb
 have hbn : (b == h.length) = false := by simp; omega
 refine zb.fresh ?_
 refine zi Tryz.func167 rfl (by simp [nts]) ?_
 refine za (vm ?_)
 simp only [wq.down, Nat.reduceLT, Tryz.results167]
 refine za (vm ?_)
 simp only [wq.down, Nat.reduceLT]
 refine zf8 5 1 (by simp only [wq.down, ↓reduceIte]) ?_
 refine vm ?_
 simp only [wq.down, seval]
 refine zw (fun m f h' => ∃ (i : Nat) (cs : List V), m + i = l.length ∧ f.t 5 = .ls h.length 1 0 i i ∧ f.t 6 = .fn (.func 89) [.lp b 0] [] ∧ f.t 11 = zr l ∧ f.t 12 = vi l.length ∧ f.t 13 = vi i ∧ f.d = [] ∧ (∀ j, j < h.length → f.k j = false) ∧ cs = ((l.take i).map (zaa C)).map vi ∧ h' = h ++ [.cells cs]) l.length
  ⟨0, [], by simp, by simp only [wq.down, seval], by simp only [wq.down, seval], by simp only [wq.down, seval], by simp only [wq.down, seval], by simp only [wq.down, ↓reduceIte]; rfl, by simp only [wq.down], fun j hj => by simp only [wq.down], rfl, rfl⟩ ?_
 rintro m f h' ⟨i, cs, hm, h5, h6, h11, h12, h13, hd, hk, hcs, rfl⟩
 have hcl : i ≤ l.length → cs.length = i := fun hi => by rw [hcs, List.length_map, List.length_map, List.length_take]; omega
 have hdc : ∀ p, V.drops p cs = cs := fun p => by rw [hcs]; exact zG _
 have hcm := hcd.one (j := h.length) (by omega)
 refine vm ?_
 simp only [wq.down, seval, h12, h13]
 refine vcB.mk (fun hlt => ?_) (fun hlt => ?_)
 ·simp only [decide_eq_true_eq, Int.ofNat_lt] at hlt
  obtain ⟨o1, o2, o3⟩ := hl _ (List.getElem_mem hlt)
  have hg := ziY hlt V.any
  have hw := zm (show i < maxLen by omega)
  have hcl' := hcl (by omega)
  simp only [wq.down, seval, h5, h6, h11, h13, hg]
  refine ⟨⟨by omega, by omega⟩, ?_⟩
  refine zbV o1 o2 o3 hC (ap _ hb) (ap _ hc) ?_
  simp only [wq.down, ↓reduceIte, Nat.reduceEqDiff, Nat.reduceLT, reduceCtorEq, Nat.reduceMul, h13, hd, hw, gE0, gS0, hdc, hcm]
  refine ⟨⟨rfl, by decide⟩, ⟨by omega, by omega, by omega⟩, .inl ⟨m - 1, by omega, i + 1, _, by omega, by simp only [wq.down, ↓reduceIte, Nat.reduceEqDiff, Nat.reduceLT, Nat.reduceLeDiff, Nat.reduceAdd, Nat.reduceSub, Int.reduceToNat, Nat.reduceDiv, Int.reduceLT, Int.reduceLE, Int.reduceNeg, Int.reduceBEq, Int.reduceBNe, Int.reduceAdd, Int.reduceSub, Nat.reduceBEq, reduceCtorEq, Nat.reduceMul, zg, Tryz.results167], by simp only [wq.down, ↓reduceIte, Nat.reduceEqDiff, Nat.reduceLT, Nat.reduceLeDiff, Nat.reduceAdd, Nat.reduceSub, Int.reduceToNat, Nat.reduceDiv, Int.reduceLT, Int.reduceLE, Int.reduceNeg, Int.reduceBEq, Int.reduceBNe, Int.reduceAdd, Int.reduceSub, Nat.reduceBEq, reduceCtorEq, Nat.reduceMul, zg, Tryz.results167, h6, hbn], by simp only [wq.down, ↓reduceIte, Nat.reduceEqDiff, Nat.reduceLT, Nat.reduceLeDiff, Nat.reduceAdd, Nat.reduceSub, Int.reduceToNat, Nat.reduceDiv, Int.reduceLT, Int.reduceLE, Int.reduceNeg, Int.reduceBEq, Int.reduceBNe, Int.reduceAdd, Int.reduceSub, Nat.reduceBEq, reduceCtorEq, Nat.reduceMul, zg, Tryz.results167, h11], by simp only [wq.down, ↓reduceIte, Nat.reduceEqDiff, Nat.reduceLT, Nat.reduceLeDiff, Nat.reduceAdd, Nat.reduceSub, Int.reduceToNat, Nat.reduceDiv, Int.reduceLT, Int.reduceLE, Int.reduceNeg, Int.reduceBEq, Int.reduceBNe, Int.reduceAdd, Int.reduceSub, Nat.reduceBEq, reduceCtorEq, Nat.reduceMul, zg, Tryz.results167, h12], by simp only [wq.down, ↓reduceIte, Nat.reduceEqDiff, Nat.reduceLT, Nat.reduceLeDiff, Nat.reduceAdd, Nat.reduceSub, Int.reduceToNat, Nat.reduceDiv, Int.reduceLT, Int.reduceLE, Int.reduceNeg, Int.reduceBEq, Int.reduceBNe, Int.reduceAdd, Int.reduceSub, Nat.reduceBEq, reduceCtorEq, Nat.reduceMul, zg, Tryz.results167], by simp only [wq.down, ↓reduceIte, Nat.reduceEqDiff, Nat.reduceLT, Nat.reduceLeDiff, Nat.reduceAdd, Nat.reduceSub, Int.reduceToNat, Nat.reduceDiv, Int.reduceLT, Int.reduceLE, Int.reduceNeg, Int.reduceBEq, Int.reduceBNe, Int.reduceAdd, Int.reduceSub, Nat.reduceBEq, reduceCtorEq, Nat.reduceMul, zg, Tryz.results167, hd], fun j hj => ?_, ?_, rfl⟩⟩
  ·simp only [wq.down, hk j hj]
   simp; omega
  ·rw [hcs, show l.take (i + 1) = l.take i ++ [l[i]] by rw [List.take_add_one, List.getElem?_eq_getElem hlt]; rfl, List.map_append, List.map_append]
   rfl
 ·simp only [decide_eq_false_iff_not, Int.ofNat_lt] at hlt
  have hi : i = l.length := by omega
  subst hi
  simp only [wq.down, seval, h5, hd]
  rw [List.take_length] at hcs
  rw [hcs]
  exact ⟨hk, hr⟩
def zpm : Plan := .take 0 <| .take 1 <| .take 2 <| .take 3 <| .take 6 <| .take 7 <| .alt 4 (.alt 5 (.one 8 <| .one 9 <| .take 10 <| .take 11 <| .take 12 <| .one 13 <| .take 14 <| .take 15 <| .take 16 <| .one 17 <| .fin) (.one 8 (.one 5 <| .one 9 <| .take 10 <| .take 11 <| .take 12 <| .one 13 <| .take 14 <| .take 15 <| .take 16 <| .one 17 <| .fin))) (.one 8 (.one 4 <| .one 5 <| .one 9 <| .take 10 <| .take 11 <| .take 12 <| .one 13 <| .take 14 <| .take 15 <| .take 16 <| .one 17 <| .fin))
theorem zd7 {h : H} (hc : zbd h) {cs : List V} (hd : ∀ p, V.drops p cs = cs) : zbd (h ++ [.cells cs]) := fun p hp => by
 rw [List.map_append, hc p (fun i hi => hp i (by simp; omega))]
 show h ++ [O.cells (V.drops p cs)] = _
 rw [hd]
theorem zif {h : H} (hcd : zbd h) {b c J a m : Nat} {n1 : Int} {nx : Cl} {k la : Nat} {x : Gr} {outs : V} {C : Cl} (hn : x.next.length ≤ 4000) (hol : x.outs.length ≤ 4000)
 (hl : ∀ a ∈ x.next, 0 ≤ a ∧ a / 2 < C.length ∧ a ≤ 1000000000) (hl2 : ∀ a ∈ x.outs, 0 ≤ a ∧ a / 2 < C.length ∧ a ≤ 1000000000) (hC : ∀ x ∈ C, 0 ≤ x ∧ x ≤ 1000000)
 (hb : h[b]? = some (.cells [vi n1, zr nx, .ls J 1 0 k k, .ls a 2 0 la la, outs, .lm m, .ls c 1 0 C.length C.length])) (hc : h[c]? = some (.cells (C.map vi)))
 {R : AEnd → H → (Nat → Bool) → Prop}
 (hr : ∀ X Y, R (.ret (.agg [vi n1, .ls (h.length + 2) 1 0 x.next.length x.next.length, .ls J 1 0 k k, .ls a 2 0 la la, .ls (h.length + 3) 1 0 x.outs.length x.outs.length]))
  (h.set b (.cells [vi n1, .ls (h.length + 2) 1 0 x.next.length x.next.length, .ls J 1 0 k k, .ls a 2 0 la la, .ls (h.length + 3) 1 0 x.outs.length x.outs.length, .lm m, .ls c 1 0 C.length C.length]) ++ [X, Y, .cells ((x.next.map (zaa C)).map vi), .cells ((x.outs.map (zaa C)).map vi)]) (fun _ => false)) :
 zb TE 90 [.lp b 0, x.v] h R := by
 have hM : maxLen = 9223372036854775807 := rfl
 have lt : ∀ {i : Nat} {o : O}, h[i]? = some o → i < h.length := fun hi => (List.getElem?_eq_some_iff.1 hi).1
 have ap : ∀ {i : Nat} {o : O} (X : H), h[i]? = some o → (h ++ X)[i]? = some o := fun X hi => by rw [List.getElem?_append_left (lt hi)]; exact hi
 have lb := lt hb
 unfold Gr.v
 refine zb.fresh ?_
 refine zi Tryz.func90 rfl (by simp [nts]) ?_
 refine za (vm ?_)
 simp only [wq.down, Nat.reduceLT, Tryz.results90, List.append_assoc]
 have c1 : zbd (h ++ [.cells [vi x.ins, zr x.next, zr x.init, prs x.ands, zr x.outs], .cells [vi 0, .nils, .nils, .nils, .nils]]) := by
  have := zd7 (zd7 hcd (cs := [vi x.ins, zr x.next, zr x.init, prs x.ands, zr x.outs]) (fun p => by simp only [wq.down, V.drops, V.drop])) (cs := [vi 0, .nils, .nils, .nils, .nils]) (fun p => by simp only [wq.down, V.drops, V.drop])
  rwa [List.append_assoc] at this
 have c2 : zbd (h ++ [.cells [vi x.ins, zr x.next, zr x.init, prs x.ands, zr x.outs], .cells [vi 0, .nils, .nils, .nils, .nils], .cells ((x.next.map (zaa C)).map vi)]) := by
  have := zd7 c1 (cs := (x.next.map (zaa C)).map vi) (fun p => zG _)
  rwa [List.append_assoc] at this
 have hbS : ∀ (Z : O) (X : H), (h.set b Z ++ X)[b]? = some Z := fun Z X => by rw [List.getElem?_append_left (by simpa using lb), List.getElem?_set_self lb]
 have hsA : ∀ (Z : O) (X : H), (h ++ X).set b Z = h.set b Z ++ X := fun Z X => List.set_append_left _ _ lb
 have hsB : ∀ (Z Y : O) (X : H), (h.set b Z ++ X).set b Y = h.set b Y ++ X := fun Z Y X => by rw [List.set_append_left _ _ (by simpa using lb), List.set_set]
 refine za (zO mixed zpm (fun f' h' => f'.t 0 = .lp b 0 ∧ f'.t 4 = .lp (h.length + 1) 0 ∧ f'.d = [] ∧ (∀ j, j < h.length → f'.k j = false) ∧ h' = h.set b (.cells [vi n1, .ls (h.length + 2) 1 0 x.next.length x.next.length, .ls J 1 0 k k, .ls a 2 0 la la, .ls (h.length + 3) 1 0 x.outs.length x.outs.length, .lm m, .ls c 1 0 C.length C.length]) ++ [.cells [vi x.ins, zr x.next, zr x.init, prs x.ands, zr x.outs], .cells [vi 0, .nils, .nils, .nils, .nils], .cells ((x.next.map (zaa C)).map vi), .cells ((x.outs.map (zaa C)).map vi)]) (by decide +kernel) (by decide +kernel) ?_ ?_)
 ·simp only [wq.down, seval, zpm, gE0]
  repeat' apply And.intro
  all_goals
   refine zie c1 hn hl hC (ap _ hb) (ap _ hc) ?_
   simp only [wq.down, seval, gE0, List.append_assoc]
   repeat' apply And.intro
  all_goals
   refine zie c2 hol hl2 hC (ap _ hb) (ap _ hc) ?_
   simp only [wq.down, seval, List.append_assoc, ap _ hb, hsA, hsB, hbS]
 ·rintro f h' ⟨k0, k4, hd, hk, rfl⟩
  show awp _ _ _ _ _ _ _
  have hgL : ∀ (Z : O) (X : H) (i : Nat), (h.set b Z ++ X)[h.length + i]? = X[i]? := fun Z X i => by
   rw [show h.length + i = (h.set b Z).length + i by simp]; exact gE
  have hsL : ∀ (Z : O) (X : H) (i : Nat) (y : O), (h.set b Z ++ X).set (h.length + i) y = h.set b Z ++ X.set i y := fun Z X i y => by
   rw [show h.length + i = (h.set b Z).length + i by simp]; exact gS
  refine vm ?_
  simp only [wq.down, seval, k0, k4, hd, hbS, hgL, hsL]
  exact ⟨hk, hr _ _⟩
theorem zeo {l : List Pr} {i : Nat} (h : i < l.length) (d : V) : (l.map prV).getD i d = prV l[i] := zcJ h d
theorem zjf (l : List Pr) : Ev TE 206 [prs l] (.fn (.func 228) [] [.ip (prs l)]) := by
 refine zh Tryz.func206 rfl (by simp [nts]) (vm ?_)
 simp only [wq.down, seval, Tryz.results206]
 refine zo.fn zl.nil (zl.cons (zo.lp rfl (zl.dat rfl) rfl rfl (by simp [V.vc]) rfl) zl.nil)
def zex (l : List Pr) (n : Nat) : List (List V) := (List.range n).map fun j => [vi ((l.length - 1 - j : Nat) : Int), prV (l.getD (l.length - 1 - j) (0, 0))]
theorem zg1 (l : List Pr) (hl : l.length ≤ 1000000) : zsy TE 228 [] [.ip (prs l)] (zex l l.length) := by
 have hM : maxLen = 9223372036854775807 := rfl
 intro id h I Stop h0 step
 have w0 : IntKind.i64.wrap ((l.length : Int) - 1) = (l.length : Int) - 1 := zba (by omega) (by omega)
 have hbl : (zex l l.length).length = l.length := by simp [zex]
 refine zi Tryz.func228 rfl (by simp [nts]) (vm ?_)
 simp only [wq.down, seval, Tryz.results228, w0]
 refine zw (fun m f h => ∃ i, m + i = l.length ∧ f.t 0 = .yd id ∧ f.t 1 = .ip (prs l) ∧ f.t 3 = vi ((l.length : Int) - 1 - i) ∧ f.d = [] ∧ f.k id = false ∧ I i h f.k) l.length ⟨0, by simp, rfl, rfl, by simp only [wq.down, ↓reduceIte]; simp, rfl, rfl, h0⟩ ?_
 rintro m f h ⟨i, hm, h0, h1, h3, hd, hk, hI⟩
 refine vm ?_
 simp only [wq.down, seval, h3]
 refine vcB.mk (fun hc => ?_) (fun hc => ?_)
 ·have hc : i < l.length := by simp only [decide_eq_true_eq] at hc; omega
  obtain ⟨p, hp⟩ : ∃ p : Nat, p = l.length - 1 - i := ⟨_, rfl⟩
  have hpl : p < l.length := by omega
  have e : (l.length : Int) - 1 - i = (p : Int) := by omega
  have w2 : IntKind.i64.wrap ((p : Int) - 1) = (l.length : Int) - 1 - ((i + 1 : Nat) : Int) := by rw [zba (by omega) (by omega)]; omega
  have hz : i < (zex l l.length).length := by omega
  have hg := step i h f.k hz hk hI
  have he : (zex l l.length)[i] = [vi (p : Int), prV l[p]] := by
   simp only [zex, List.getElem_map, List.getElem_range]
   rw [← hp, zt hpl]
  rw [he] at hg
  obtain ⟨t, n', ps, asg, body, pend, hL, hsz, hps, hw⟩ := hg
  rw [e] at h3
  simp only [wq.down, seval, h0, h1, h3, zeo hpl, hL]
  refine ⟨⟨by omega, by omega⟩, ⟨by simpa using hsz, hps⟩, zbt hw ?_⟩
  intro j h' p' hp' hS
  refine ⟨by simp [zfO, hd], ?_⟩
  cases j with
  | none =>
   simp only [wq.down, seval, h3, Option.isNone_none, w2]
   refine .inl ⟨m - 1, by omega, i + 1, by omega, by simp only [wq.down, seval, h0, hp'], by simp only [wq.down, seval, h1], by simp only [wq.down, ↓reduceIte], by simp only [wq.down, hd], by simp only [wq.down, hk, hp'], by simp only [wq.down]; exact hS⟩
  | some c =>
   simp only [wq.down, seval, hd, hp', Option.isNone_some]
   exact ⟨by simp [hk], .inr ⟨c, hS⟩⟩
 ·have hi : i = l.length := by simp only [decide_eq_false_iff_not] at hc; omega
  subst hi
  simp only [wq.down, hd]
  refine ⟨hk, .inl ?_⟩
  rw [hbl]
  exact hI
theorem zdC {h : H} {g : Gr} {r n : Nat} {R : AEnd → H → (Nat → Bool) → Prop}
 (hr : R (.ret (.fn (.func 205) [] [.lp h.length 0, .lp (h.length + 1) 0])) (h ++ [.cells [vi g.ins, zr g.next, zr g.init, prs g.ands, zr g.outs], .cells [.ls r 1 0 n n]]) (fun _ => false)) : zb TE 168 [g.v, .ls r 1 0 n n] h R := by
 unfold Gr.v
 refine zi Tryz.func168 rfl (by simp [nts]) (vm ?_)
 simp only [wq.down, seval, Tryz.results168, List.append_assoc]
 exact hr
end Go.Proofs.YtboolnpmlmgpkaaGreatDoor
