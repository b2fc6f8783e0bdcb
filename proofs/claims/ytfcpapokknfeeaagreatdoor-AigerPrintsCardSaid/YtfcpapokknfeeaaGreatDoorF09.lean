/- Lemmas for the statement of this claim, part F09: they hold with no conditions but those that each one names. -/
import Derived.Test.YtfcpapokknfeeaaGreatDoorF08
set_option linter.unusedVariables false
set_option maxRecDepth 20000
set_option linter.unusedSimpArgs false
set_option linter.unnecessarySimpa false
namespace Go.Proofs.YtfcpapokknfeeaaGreatDoor
open Go Go.Proofs Go.Abs
def uS (g : Gr) : Gr :=
 let x := jh g (bC g (fun _ => true) g.ands.length)
 jh x (bC x (fun i => (qB x).getD (x.first + (i : Int)).toNat false) x.ands.length)
def Ol : Plan := .take 0 <| .take 1 <| .take 2 <| .take 5 <| .take 6 <| .alt 3 (.alt 4 (.one 7 <| .one 8 <| .one 9 <| .take 10 <| .fin) (.one 7 (.one 4 <| .one 8 <| .one 9 <| .take 10 <| .fin))) (.one 7 (.one 3 <| .one 4 <| .one 8 <| .one 9 <| .take 10 <| .fin))
def U7 : Plan := .take 0 <| .take 1 <| .take 2 <| .take 3 <| .take 5 <| .take 6 <| .take 7 <| .take 10 <| .take 11 <| .alt 4 (.alt 8 (.alt 9 (.one 12 <| .one 13 <| .one 14 <| .one 15 <| .one 16 <| .take 17 <| .take 18 <| .one 19 <| .fin) (.one 12 (.one 9 <| .one 13 <| .one 14 <| .one 15 <| .one 16 <| .take 17 <| .take 18 <| .one 19 <| .fin))) (.one 12 (.one 8 <| .one 9 <| .one 13 <| .one 14 <| .one 15 <| .one 16 <| .take 17 <| .take 18 <| .one 19 <| .fin))) (.alt 8 (.alt 4 (.alt 9 (.one 12 <| .one 13 <| .one 14 <| .one 15 <| .one 16 <| .take 17 <| .take 18 <| .one 19 <| .fin) (.one 12 (.one 9 <| .one 13 <| .one 14 <| .one 15 <| .one 16 <| .take 17 <| .take 18 <| .one 19 <| .fin))) (.alt 9 (.alt 4 (.one 12 <| .one 13 <| .one 14 <| .one 15 <| .one 16 <| .take 17 <| .take 18 <| .one 19 <| .fin) (.one 12 (.alt 4 (.one 13 <| .one 14 <| .one 15 <| .one 16 <| .take 17 <| .take 18 <| .one 19 <| .fin) (.one 13 (.alt 4 (.one 14 <| .one 15 <| .one 16 <| .take 17 <| .take 18 <| .one 19 <| .fin) (.one 14 (.alt 4 (.one 15 <| .one 16 <| .take 17 <| .take 18 <| .one 19 <| .fin) (.one 15 (.one 4 <| .one 16 <| .take 17 <| .take 18 <| .one 19 <| .fin))))))))) (.one 12 (.alt 4 (.one 9 <| .one 13 <| .one 14 <| .one 15 <| .one 16 <| .take 17 <| .take 18 <| .one 19 <| .fin) (.one 9 (.alt 4 (.one 13 <| .one 14 <| .one 15 <| .one 16 <| .take 17 <| .take 18 <| .one 19 <| .fin) (.one 13 (.alt 4 (.one 14 <| .one 15 <| .one 16 <| .take 17 <| .take 18 <| .one 19 <| .fin) (.one 14 (.alt 4 (.one 15 <| .one 16 <| .take 17 <| .take 18 <| .one 19 <| .fin) (.one 15 (.one 4 <| .one 16 <| .take 17 <| .take 18 <| .one 19 <| .fin)))))))))))) (.one 12 (.alt 4 (.one 8 <| .one 9 <| .one 13 <| .one 14 <| .one 15 <| .one 16 <| .take 17 <| .take 18 <| .one 19 <| .fin) (.one 8 (.alt 4 (.one 9 <| .one 13 <| .one 14 <| .one 15 <| .one 16 <| .take 17 <| .take 18 <| .one 19 <| .fin) (.one 9 (.alt 4 (.one 13 <| .one 14 <| .one 15 <| .one 16 <| .take 17 <| .take 18 <| .one 19 <| .fin) (.one 13 (.alt 4 (.one 14 <| .one 15 <| .one 16 <| .take 17 <| .take 18 <| .one 19 <| .fin) (.one 14 (.alt 4 (.one 15 <| .one 16 <| .take 17 <| .take 18 <| .one 19 <| .fin) (.one 15 (.one 4 <| .one 16 <| .take 17 <| .take 18 <| .one 19 <| .fin)))))))))))))
abbrev hN (g : Gr) (A : List Pr) (C : Cl) : H := [.cells [vi g.ins, aF g.next, aF g.init, prs g.ands, aF g.outs], .cells [vi 0, .nils, .nils, .nils, .nils], .cells [vi g.ins, aF g.next, aF g.init, prs g.ands, aF g.outs], .cells (g.init.map vi), .cells [vi g.ins, aF g.next, .ls 3 1 0 g.init.length g.init.length, .nils, .nils], .map (A.map prV) (Fe g.first A.length), bo g.ins g.next 3 g.init.length 7 A.length .nils 5 8 C.length, .cells (fl A), .cells (C.map vi)]
def InN (g : Gr) (s : List Pr × Cl) (h : H) : Prop := ∃ X, h = hN g s.1 s.2 ++ X
theorem fV {p : Nat → Bool} : ∀ {A : List Pr}, V.drops p (fl A) = fl A
 | [] => rfl
 | a :: A => by show V.drops p (vi a.1 :: vi a.2 :: fl A) = _; simp only [V.drops, V.drop, fV (A := A)]; rfl
theorem jE {p : Nat → Bool} : ∀ {A : List Pr}, V.drops p (A.map prV) = A.map prV
 | [] => rfl
 | a :: A => by rw [List.map_cons, V.drops, jE (A := A)]; rfl
theorem ji {p : Nat → Bool} {f : Int} {n : Nat} : V.drops p (Fe f n) = Fe f n := by
 unfold Fe;generalize List.range n = l
 induction l with
 | nil => rfl
 | cons a l ih => rw [List.map_cons, V.drops, ih]; rfl
theorem uT {g : Gr} {A : List Pr} {C : Cl} : dE (hN g A C) := fun p hp => by have h3 := hp 3 (show 3 < 9 by decide);have h5 := hp 5 (show 5 < 9 by decide);have h7 := hp 7 (show 7 < 9 by decide);have h8 := hp 8 (show 8 < 9 by decide);have d1 : V.drops p (g.init.map vi) = g.init.map vi := aQ _;have d2 : V.drops p (C.map vi) = C.map vi := aQ _;simp only [wq.1, ↓reduceIte, hN, bo, O.drop, V.drops, V.drop, h3, h5, h7, h8, d1, d2, fV, jE, ji]
theorem Yv {g : Gr} {A : List Pr} {C : Cl} {x y : Int} : ∀ (j : Nat) (o : O), (hN g A C ++ [.cells [vi x, vi y]])[j]? = some o → j ≠ 6 → o.drop (· == 7) = o := by
 intro j o ho hne;have d1 : V.drops (· == 7) (g.init.map vi) = g.init.map vi := aQ _;have d2 : V.drops (· == 7) (C.map vi) = C.map vi := aQ _;rcases j with _|_|_|_|_|_|_|_|_|_|j
 all_goals first
  | exact absurd rfl hne
  | (obtain rfl := Option.some.inj ho; simp only [wq.1, seval, O.drop, V.drops, V.drop, d1, d2, fV, jE, ji])
  | (simp at ho)
abbrev hQ (g x : Gr) (L : List Bool) (A : List Pr) (C : Cl) : H := [.cells [vi g.ins, aF g.next, aF g.init, prs g.ands, aF g.outs], .cells [vi 0, .nils, .nils, .nils, .nils], .dead, .dead, .dead, .dead, .dead, .dead, .dead, .dead, .dead, .dead, .dead, .cells [vi x.ins, aF x.next, aF x.init, prs x.ands, aF x.outs], .cells (L.map V.bool), .cells [vi x.ins, aF x.next, aF x.init, prs x.ands, aF x.outs], .cells (x.init.map vi), .cells [vi x.ins, aF x.next, .ls 16 1 0 x.init.length x.init.length, .nils, .nils], .map (A.map prV) (Fe x.first A.length), bo x.ins x.next 16 x.init.length 20 A.length .nils 18 21 C.length, .cells (fl A), .cells (C.map vi)]
def InM (g x : Gr) (L : List Bool) (s : List Pr × Cl) (h : H) : Prop := ∃ X, h = hQ g x L s.1 s.2 ++ X
theorem nN {p : Nat → Bool} : ∀ {L : List Bool}, V.drops p (L.map V.bool) = L.map V.bool
 | [] => rfl
 | a :: A => by rw [List.map_cons, V.drops, nN (L := A)]; rfl
theorem uU {g x : Gr} {L : List Bool} {A : List Pr} {C : Cl} : dE (hQ g x L A C) := fun p hp => by have h3 := hp 16 (show 16 < 22 by decide);have h5 := hp 18 (show 18 < 22 by decide);have h7 := hp 20 (show 20 < 22 by decide);have h8 := hp 21 (show 21 < 22 by decide);have d1 : V.drops p (x.init.map vi) = x.init.map vi := aQ _;have d2 : V.drops p (C.map vi) = C.map vi := aQ _;simp only [wq.1, ↓reduceIte, hQ, bo, O.drop, V.drops, V.drop, h3, h5, h7, h8, d1, d2, fV, jE, ji, nN]
theorem Yw {g x : Gr} {L : List Bool} {A : List Pr} {C : Cl} {u v : Int} : ∀ (j : Nat) (o : O), (hQ g x L A C ++ [.cells [vi u, vi v]])[j]? = some o → j ≠ 19 → o.drop (· == 20) = o := by
 intro j o ho hne;have d1 : V.drops (· == 20) (x.init.map vi) = x.init.map vi := aQ _;have d2 : V.drops (· == 20) (C.map vi) = C.map vi := aQ _;rcases j with _|_|_|_|_|_|_|_|_|_|_|_|_|_|_|_|_|_|_|_|_|_|_|j
 all_goals first
  | exact absurd rfl hne
  | (obtain rfl := Option.some.inj ho; simp only [wq.1, seval, O.drop, V.drops, V.drop, d1, d2, fV, jE, ji, nN])
  | (simp at ho)
set_option maxHeartbeats 8000000 in
theorem Om {g : Gr} (hg : g.chk = 0) : Ev TE 40 [g.v] (.tup [(uS g).v, vi 0]) := by
 have hM : maxLen = 9223372036854775807 := rfl;obtain ⟨_, i0, i1, i2, i3, i4, i5⟩ := bQ hg;obtain ⟨r1, r2, r3, r4⟩ := cO i4;have wf : g.first = 1 + g.ins + g.next.length := rfl
 have hck := qN g ⟨by omega, by omega⟩;rw [hg] at hck;obtain ⟨y, hy⟩ : ∃ y, y = uS g := ⟨_, rfl⟩;rw [← hy];unfold Gr.v at hck;rw [show g.v = .agg [vi g.ins, aF g.next, aF g.init, prs g.ands, aF g.outs] from rfl];refine ax Tryz.func40 rfl (by simp [nts]) ?_;refine ag (vm ?_);simp only [wq.1, Nat.reduceLT, Tryz.results40];refine ag (vm ?_);simp only [wq.1, seval];refine ah.ev hck (by simp only [V.dats, V.dat, Bool.and_self]) ?_;simp only [wq.1, seval];refine ag (vm ?_);simp only [wq.1, seval];refine uQ (h := [.cells [vi g.ins, aF g.next, aF g.init, prs g.ands, aF g.outs], .cells [vi 0, .nils, .nils, .nils, .nils]]) (fun p hp => by simp only [wq.1, O.drop, V.drops, V.drop]) hg ?_;simp only [wq.1, seval];obtain ⟨s1, hs1⟩ : ∃ s1, s1 = bC g (fun _ => true) g.ands.length := ⟨_, rfl⟩;refine ag (bH (Q := fun xe f h => xe = .normal ∧ f.t 1 = .lp 0 0 ∧ f.t 2 = .lp 1 0 ∧ f.t 5 = .lp 6 0 ∧ f.d = [] ∧ InN g s1 h) ?_ ?_)
 ·rintro xe f h ⟨rfl, t1, t2, t5, hd, X, rfl⟩;show awp _ _ _ _ _ _ _;obtain ⟨q1, q2, q3⟩ := iO (g := g) i0 (fun _ => true) g.ands.length;have hxc := iE hg (fun _ => true);rw [← hs1] at q1 q2 q3 hxc;have hym : y = jh (jh g s1) (bC (jh g s1) (fun i => (qB (jh g s1)).getD ((jh g s1).first + (i : Int)).toNat false) (jh g s1).ands.length) := by rw [hy, hs1]; rfl
  clear hs1 hy;obtain ⟨A, C⟩ := s1;dsimp only at q1 q2 q3 ⊢;refine dh (by rw [hd]; simp) ?_;rw [uT.from_];obtain ⟨f', hf'⟩ : ∃ f', f' = f.drop (Abs.bf (hN g A C).length) := ⟨_, rfl⟩;have u1 : f'.t 1 = .lp 0 0 := by rw [hf']; show (f.t 1).drop _ = _; rw [t1]; rfl
  have u2 : f'.t 2 = .lp 1 0 := by rw [hf']; show (f.t 2).drop _ = _; rw [t2]; rfl
  have u5 : f'.t 5 = .lp 6 0 := by rw [hf']; show (f.t 5).drop _ = _; rw [t5]; rfl
  have ud : f'.d = [] := by rw [hf']; exact hd
  rw [← hf'];clear hf' t1 t2 t5 hd;have hCb : ∀ x ∈ C, 0 ≤ x ∧ x ≤ 1000000 := fun x hx => by have := q3 x hx; omega
  have wa : g.all = 2 * (g.first + g.ands.length) := rfl;have hcl := uT (g := g) (A := A) (C := C);refine ag (vm ?_);simp only [wq.1, seval, u1, u5];refine CB (x := g) (b := 6) (c := 8) (J := 3) (a := 7) (m := 5) (n1 := g.ins) (nx := g.next) (outs := .nils) (k := g.init.length) (la := A.length) (C := C) hcl (by omega) (by omega) (fun a ha => by have := r3 a ha; omega) (fun a ha => by have := r4 a ha; omega) hCb (by rfl) (by rfl) (fun X Y => ?_);simp only [wq.1, seval];obtain ⟨x, hx⟩ : ∃ x, x = jh g (A, C) := ⟨_, rfl⟩;rw [← hx] at hxc hym;obtain ⟨p, hp⟩ : ∃ p : Nat → Bool, p = fun i => decide (2 ≤ i) && decide (i ≤ 12) := ⟨_, rfl⟩;refine um p [.cells [vi g.ins, aF g.next, aF g.init, prs g.ands, aF g.outs], .cells [vi 0, .nils, .nils, .nils, .nils], .dead, .dead, .dead, .dead, .dead, .dead, .dead, .dead, .dead, .dead, .dead, .cells [vi x.ins, aF x.next, aF x.init, prs x.ands, aF x.outs]] ?_ ?_ (fun i hi => by simp [JL, ud] at hi) ?_
  ·intro i hi;rcases i with _|_|i
   ·exact .inl (by rw [hp]; rfl)
   ·exact .inl (by rw [hp]; rfl)
   ·by_cases h11 : i = 11
    ·subst h11;refine .inr ⟨_, _, rfl, rfl, ?_⟩;rw [hx];refine ⟨.inl rfl, .inr ⟨?_, bK ?_ ?_⟩, .inr ⟨?_, bK ?_ ?_⟩, .inr ⟨?_, nK ?_ ?_⟩, .inr ⟨?_, bK ?_ ?_⟩, trivial⟩
     ·rw [hp]; rfl
     ·rw [hp]; show some (O.cells (V.drops _ _)) = _; rw [aQ]; rfl
     ·simp [jh]
     ·rw [hp]; rfl
     ·rw [hp]; show some (O.cells (V.drops _ _)) = _; rw [aQ]; rfl
     ·rfl
     ·rw [hp]; rfl
     ·rw [hp]; show some (O.cells (V.drops _ _)) = _; rw [fV]; rfl
     ·rfl
     ·rw [hp]; rfl
     ·rw [hp]; show some (O.cells (V.drops _ _)) = _; rw [aQ]; rfl
     ·simp [jh]
    ·by_cases hb : i < 11
     ·rw [hp] at hi;simp only [Bool.and_eq_false_iff, decide_eq_false_iff_not] at hi;omega
     ·obtain ⟨j, rfl⟩ : ∃ j, i = 12 + j := ⟨i - 12, by omega⟩;exact .inl (by rw [List.getElem?_eq_none (by simp), List.getElem?_eq_none (by simp)]; rfl)
  ·intro i o hi ho;rw [hp] at hi;simp only [Bool.and_eq_true, decide_eq_true_eq] at hi;rcases i with _|_|_|_|_|_|_|_|_|_|_|_|_|i
   all_goals first
    | omega
    | exact (Option.some.inj ho).symm
  ·refine EM (fun f' => f'.t 1 = .lp 0 0 ∧ f'.t 2 = .lp 1 0 ∧ f'.t 8 = .lp 13 0 ∧ f'.d = []) [.cells [vi g.ins, aF g.next, aF g.init, prs g.ands, aF g.outs], .cells [vi 0, .nils, .nils, .nils, .nils], .dead, .dead, .dead, .dead, .dead, .dead, .dead, .dead, .dead, .dead, .dead, .cells [vi x.ins, aF x.next, aF x.init, prs x.ands, aF x.outs]] (fun hk => hk _ ⟨?_, ?_, ?_, ?_⟩) ?_
   ·simp only [wq.1, seval, u1, hp]
   ·simp only [wq.1, seval, u2, hp]
   ·simp only [wq.1, seval, hp]
   ·simp only [wq.1, ud]
   ·clear hcl hCb q1 q2 q3 u1 u2 u5 ud hx hp;clear p f' X Y f;rintro f ⟨t1, t2, t8, hd⟩;have hld := Oj hxc;obtain ⟨_, j0, j1, j2, j3, j4, j5⟩ := bQ hxc;obtain ⟨v1, v2, v3, v4⟩ := cO j4;have xf : x.first = 1 + x.ins + x.next.length := rfl
    obtain ⟨L, hL⟩ : ∃ L, L = qB x := ⟨_, rfl⟩;have hLl : L.length = x.vars := by rw [hL]; exact sS
    obtain ⟨n, hn⟩ : ∃ n, n = x.vars := ⟨_, rfl⟩;have hnv : (n : Int) = x.first + x.ands.length := by rw [hn]; unfold Gr.vars; omega
    rw [← hL] at hld hym;rw [← hn] at hld hLl;unfold Gr.v at hld;have dbl : V.dats (L.map V.bool) = true := Gg _;have dbo : ∀ p, V.drops p (L.map V.bool) = L.map V.bool := fun p => nN;refine ag (vm ?_);simp only [wq.1, seval, t8];refine nH hld (by simp only [V.dats, V.dat, Bool.and_self]) dbl ?_;simp only [wq.1, seval];refine ag (vm ?_);simp only [wq.1, seval, t8];refine uQ (h := [.cells [vi g.ins, aF g.next, aF g.init, prs g.ands, aF g.outs], .cells [vi 0, .nils, .nils, .nils, .nils], .dead, .dead, .dead, .dead, .dead, .dead, .dead, .dead, .dead, .dead, .dead, .cells [vi x.ins, aF x.next, aF x.init, prs x.ands, aF x.outs], .cells (L.map V.bool)]) (fun p hp => by simp only [wq.1, O.drop, V.drops, V.drop, dbo]) hxc ?_;simp only [wq.1, seval];obtain ⟨use, hu⟩ : ∃ use, use = fun i : Nat => L.getD (x.first + (i : Int)).toNat false := ⟨_, rfl⟩;rw [← hu] at hym;obtain ⟨s1, hs1⟩ : ∃ s1, s1 = bC x use x.ands.length := ⟨_, rfl⟩;rw [← hs1] at hym;refine ag (bH (Q := fun xe f h => xe = .normal ∧ f.t 2 = .lp 1 0 ∧ f.t 8 = .lp 13 0 ∧ f.t 10 = .lp 19 0 ∧ f.d = [] ∧ InM g x L s1 h) ?_ ?_)
    ·rintro xe f h ⟨rfl, t2, t8, t10, hd, X, rfl⟩;show awp _ _ _ _ _ _ _;obtain ⟨q1, q2, q3⟩ := iO (g := x) j0 use x.ands.length;rw [← hs1] at q1 q2 q3;clear hs1;obtain ⟨A, C⟩ := s1;dsimp only at q1 q2 q3 ⊢;refine dh (by rw [hd]; simp) ?_;rw [uU.from_];obtain ⟨f', hf'⟩ : ∃ f', f' = f.drop (Abs.bf (hQ g x L A C).length) := ⟨_, rfl⟩;have u2 : f'.t 2 = .lp 1 0 := by rw [hf']; show (f.t 2).drop _ = _; rw [t2]; rfl
     have u8 : f'.t 8 = .lp 13 0 := by rw [hf']; show (f.t 8).drop _ = _; rw [t8]; rfl
     have u10 : f'.t 10 = .lp 19 0 := by rw [hf']; show (f.t 10).drop _ = _; rw [t10]; rfl
     have ud : f'.d = [] := by rw [hf']; exact hd
     rw [← hf'];clear hf' t2 t8 t10 hd;have hCb : ∀ x ∈ C, 0 ≤ x ∧ x ≤ 1000000 := fun x hx => by have := q3 x hx; omega
     have wa : x.all = 2 * (x.first + x.ands.length) := rfl;have hcl := uU (g := g) (x := x) (L := L) (A := A) (C := C);refine ag (vm ?_);simp only [wq.1, seval, u8, u10];refine CB (x := x) (b := 19) (c := 21) (J := 16) (a := 20) (m := 18) (n1 := x.ins) (nx := x.next) (outs := .nils) (k := x.init.length) (la := A.length) (C := C) hcl (by omega) (by omega) (fun a ha => by have := v3 a ha; omega) (fun a ha => by have := v4 a ha; omega) hCb (by rfl) (by rfl) (fun X Y => ?_);simp only [wq.1, seval, u2];refine vm ?_;simp only [wq.1, seval, u2, ud];rw [hym];show aG TE _ _ (V.tup [.agg [vi x.ins, aF (x.next.map (bJ C)), aF x.init, prs A, aF (x.outs.map (bJ C))], vi 0]);exact aG.tup (aC.cons (aG.agg (aC.cons (aG.dat rfl) (aC.cons (bK rfl (by simp)) (aC.cons (bK rfl rfl) (aC.cons (nK rfl rfl) (aC.cons (bK rfl (by simp)) aC.nil)))))) (aC.dat rfl))
    ·refine ag (vm ?_);simp only [wq.1, seval, t8];refine az ?_;refine aA (fun m f h => ∃ i, m + i = x.ands.length ∧ f.t 2 = .lp 1 0 ∧ f.t 8 = .lp 13 0 ∧ f.t 9 = .ls 14 1 0 n n ∧ f.t 10 = .lp 19 0 ∧ f.t 57 = prs x.ands ∧ f.t 58 = vi x.ands.length ∧ f.t 59 = vi i ∧ f.d = [] ∧ InM g x L (bC x use i) h) x.ands.length ⟨0, by omega, by simp only [wq.1, seval, t2], by simp only [wq.1, seval, t8], by simp only [wq.1, seval], by simp only [wq.1, seval], by simp only [wq.1, seval], by simp only [wq.1, seval], by simp only [wq.1, ↓reduceIte]; rfl, by simp only [wq.1, hd], [], ?_⟩ ?_
     ·rw [List.append_nil];show _ = hQ g x L [] (gG x.first.toNat);unfold hQ bo;rw [eF];rfl
     ·rintro m f h ⟨i, hm, t2, t8, t9, t10, t57, t58, t59, hd, X, rfl⟩;obtain ⟨q1, q2, q3⟩ := iO (g := x) j0 use i;obtain ⟨A, C, hAC⟩ : ∃ A C, bC x use i = (A, C) := ⟨_, _, rfl⟩;have hst : bC x use (i + 1) = kQ x.first (use i) (bC x use i) (x.ands.getD i (0, 0)) := rfl
      rw [hAC] at q1 q2 q3 hst ⊢;dsimp only at q1 q2 q3 ⊢;refine dh (by rw [hd]; simp) ?_;rw [uU.from_];obtain ⟨f', hf'⟩ : ∃ f', f' = f.drop (Abs.bf (hQ g x L A C).length) := ⟨_, rfl⟩;have u2 : f'.t 2 = .lp 1 0 := by rw [hf']; show (f.t 2).drop _ = _; rw [t2]; rfl
      have u8 : f'.t 8 = .lp 13 0 := by rw [hf']; show (f.t 8).drop _ = _; rw [t8]; rfl
      have u9 : f'.t 9 = .ls 14 1 0 n n := by rw [hf']; show (f.t 9).drop _ = _; rw [t9]; rfl
      have u10 : f'.t 10 = .lp 19 0 := by rw [hf']; show (f.t 10).drop _ = _; rw [t10]; rfl
      have u57 : f'.t 57 = prs x.ands := by rw [hf']; show (f.t 57).drop _ = _; rw [t57]; rfl
      have u58 : f'.t 58 = vi x.ands.length := by rw [hf']; show (f.t 58).drop _ = _; rw [t58]; rfl
      have u59 : f'.t 59 = vi i := by rw [hf']; show (f.t 59).drop _ = _; rw [t59]; rfl
      have ud : f'.d = [] := by rw [hf']; exact hd
      rw [← hf'];clear hf' t2 t8 t9 t10 t57 t58 t59 hd;refine ag (vm ?_);simp only [wq.1, Nat.reduceLT, u58, u59];refine ag (gJ (b := decide ((i : Int) < x.ands.length)) (by simp only [wq.1, ↓reduceIte]) (by simp only [wq.1, ↓reduceIte]) (fun hlt => ?_) (fun hlt => ?_))
      ·simp only [decide_eq_true_eq, Int.ofNat_lt] at hlt;refine vm ?_;simp only [wq.1];have hgp := mZ hlt V.any;have hfst := jQ x (by omega) (by omega) (by omega);have wn : IntKind.i64.wrap (x.first + (i : Int)) = x.first + i := dD (by omega) (by omega)
       have hvn : (x.first + (i : Int)).toNat < L.length := by rw [hLl]; omega
       have hgd : (L.map V.bool).getD ((x.first + (i : Int)).toNat * 1) V.any = V.bool (use i) := by rw [hu, Nat.mul_one, List.getD_eq_getElem?_getD, List.getElem?_map, List.getElem?_eq_getElem hvn];show V.bool _ = V.bool (L.getD _ false);rw [aO hvn]
       have x1 : 0 ≤ x.first + (i : Int) := by omega
       have x2 : x.first + (i : Int) < n := by omega
       have x3 : (x.first + (i : Int)).toNat * 1 + 1 ≤ L.length := by omega
       obtain ⟨o1, o2, o3, o4⟩ := fA j5 hlt;have hCb : ∀ x ∈ C, 0 ≤ x ∧ x ≤ 1000000 := fun x hx => by have := q3 x hx; omega
       have hAi : A.length ≤ i := q1;unfold Gr.v at hfst;refine ag (az ?_);refine ag (vm ?_);simp only [wq.1, seval, u57, u59, hgp];refine ⟨⟨by omega, by omega⟩, ?_⟩;refine ag (vm ?_);simp only [wq.1, Nat.reduceLT];refine ag ?_;refine ag (vm ?_);simp only [wq.1, seval, u8, u9];refine ah.ev hfst (by simp only [V.dats, V.dat, Bool.and_self]) ?_;simp only [wq.1, ↓reduceIte, Nat.reduceEqDiff, Nat.reduceLT, wn, x1, x2, x3, hgd];obtain ⟨w1, hw1⟩ : ∃ w1, w1 = bJ C x.ands[i].1 := ⟨_, rfl⟩;obtain ⟨w2, hw2⟩ : ∃ w2, w2 = bJ C x.ands[i].2 := ⟨_, rfl⟩;have b1 := fU (a := x.ands[i].1) (k := x.first + A.length) (by omega) q3;have b2 := fU (a := x.ands[i].2) (k := x.first + A.length) (by omega) q3;rw [← hw1] at b1;rw [← hw2] at b2;obtain ⟨r, hr⟩ : ∃ r, r = if use i then jd x.first A w1 w2 else (A, 0) := ⟨_, rfl⟩
       have hst2 : bC x use (i + 1) = (r.1, C ++ [r.2]) := by
        rw [hst, aO hlt, hr];unfold kQ;cases use i with
        | true => rw [if_pos rfl, if_pos rfl, hw1, hw2]
        | false => rw [if_neg (by decide), if_neg (by decide)]
       refine bH (Q := fun xe f h => xe = .normal ∧ f.t 2 = .lp 1 0 ∧ f.t 8 = .lp 13 0 ∧ f.t 9 = .ls 14 1 0 n n ∧ f.t 10 = .lp 19 0 ∧ f.t 57 = prs x.ands ∧ f.t 58 = vi x.ands.length ∧ f.t 59 = vi i ∧ f.t 13 = vi r.2 ∧ f.d = [] ∧ ∃ X, h = hQ g x L r.1 C ++ X) ?_ ?_
       ·rintro xe f h ⟨rfl, t2, t8, t9, t10, t57, t58, t59, t13, hd, X, rfl⟩;have hw := ak (show i < maxLen by omega);have d1 : V.drops (fun x => x == 21) (x.init.map vi) = x.init.map vi := aQ _;have d2 : V.drops (fun x => x == 21) (C.map vi) = C.map vi := aQ _;show awp _ _ _ _ _ _ _;refine vm ?_;simp only [wq.1, ↓reduceIte, Nat.reduceEqDiff, Nat.reduceLT, Nat.reduceAdd, Nat.reduceBEq, reduceCtorEq, Nat.reduceMul, t10, t13, hd, bo, fV, jE, ji, nN, d1, d2];refine ⟨⟨rfl, by decide⟩, ⟨by omega, by omega, by omega⟩, ?_⟩;refine vm ?_;simp only [wq.1, seval, t59, hw];refine .inl ⟨m - 1, by omega, i + 1, by omega, by simp only [wq.1, seval, t2], by simp only [wq.1, seval, t8], by simp only [wq.1, seval, t9], by simp only [wq.1, seval, t10], by simp only [wq.1, seval, t57], by simp only [wq.1, seval, t58], by simp only [wq.1, ↓reduceIte], by simp only [wq.1, hd], List.map (O.drop fun x => x == 21) X, ?_⟩;rw [hst2];show _ = hQ g x L r.1 (C ++ [r.2]) ++ _;unfold hQ bo;rw [List.length_append, List.map_append];rfl
       ·refine gJ (b := use i) (by simp only [wq.1, ↓reduceIte]) (by simp only [wq.1, ↓reduceIte]) (fun hb => ?_) (fun hb => ?_)
        ·rw [hb, if_pos rfl] at hr;refine bg mixed Ol (fun f h => f.t 2 = .lp 1 0 ∧ f.t 8 = .lp 13 0 ∧ f.t 9 = .ls 14 1 0 n n ∧ f.t 10 = .lp 19 0 ∧ f.t 57 = prs x.ands ∧ f.t 58 = vi x.ands.length ∧ f.t 59 = vi i ∧ f.t 13 = vi r.2 ∧ f.d = [] ∧ ∃ X, h = hQ g x L r.1 C ++ X) (by decide +kernel) (by decide +kernel) ?_ (fun f h hr => ⟨rfl, hr⟩);simp only [wq.1, seval, Ol, u10, bo]
         repeat' apply And.intro
         all_goals first
          | decide
          | skip
         all_goals
          refine kN (c := 21) o1 (by omega) (by omega) hCb (by rfl) (by rfl) ?_;simp only [wq.1, seval, ← hw1]
          repeat' apply And.intro
         all_goals first
          | decide
          | skip
         all_goals
          refine kN (c := 21) o2 (by omega) (by omega) hCb (by rfl) (by rfl) ?_;simp only [wq.1, seval, ← hw2]
          repeat' apply And.intro
         all_goals
          refine Cj (b := 19) (a := 20) (J := 16) (m := 18) (c := 21) (lc := C.length) (ini := x.init) (nx := x.next) (n1 := x.ins) (f0 := x.first) (A := A) xf j0 (by omega) (by omega) (by omega) (by omega) b1.1 (by omega) b2.1 (by omega) (by rfl) (by rfl) (by rfl) (by rfl) Yw (by decide) (by decide) (by decide) (fun X => ?_);rw [← hr];simp only [wq.1, seval, bD, u2, u8, u9, u10, u57, u58, u59, ud];exact ⟨_, rfl⟩
        ·rw [hb, if_neg (by decide)] at hr;subst hr;refine vm ?_;simp only [wq.1, seval, u2, u8, u9, u10, u57, u58, u59, ud];exact ⟨_, rfl⟩
      ·simp only [decide_eq_false_iff_not, Int.ofNat_lt] at hlt;have hi : i = x.ands.length := by omega
       subst hi;refine vm ?_;simp only [wq.1, seval, u2, u8, u10, ud];rw [hs1, hAC];exact ⟨[], (List.append_nil _).symm⟩
 ·refine ag (vm ?_);simp only [wq.1, seval];refine az ?_;refine aA (fun m f h => ∃ i, m + i = g.ands.length ∧ f.t 1 = .lp 0 0 ∧ f.t 2 = .lp 1 0 ∧ f.t 5 = .lp 6 0 ∧ f.t 23 = prs g.ands ∧ f.t 24 = vi g.ands.length ∧ f.t 25 = vi i ∧ f.d = [] ∧ InN g (bC g (fun _ => true) i) h) g.ands.length ⟨0, by omega, by simp only [wq.1, seval], by simp only [wq.1, seval], by simp only [wq.1, seval], by simp only [wq.1, seval], by simp only [wq.1, seval], by simp only [wq.1, ↓reduceIte]; rfl, by simp only [wq.1], [], ?_⟩ ?_
  ·rw [List.append_nil];show _ = hN g [] (gG g.first.toNat);unfold hN bo;rw [eF];rfl
  ·rintro m f h ⟨i, hm, t1, t2, t5, t23, t24, t25, hd, X, rfl⟩;obtain ⟨q1, q2, q3⟩ := iO (g := g) i0 (fun _ => true) i;obtain ⟨A, C, hAC⟩ : ∃ A C, bC g (fun _ => true) i = (A, C) := ⟨_, _, rfl⟩;have hst : bC g (fun _ => true) (i + 1) = kQ g.first true (bC g (fun _ => true) i) (g.ands.getD i (0, 0)) := rfl
   rw [hAC] at q1 q2 q3 hst ⊢;dsimp only at q1 q2 q3 ⊢;refine dh (by rw [hd]; simp) ?_;rw [uT.from_];obtain ⟨f', hf'⟩ : ∃ f', f' = f.drop (Abs.bf (hN g A C).length) := ⟨_, rfl⟩;have u1 : f'.t 1 = .lp 0 0 := by rw [hf']; show (f.t 1).drop _ = _; rw [t1]; rfl
   have u2 : f'.t 2 = .lp 1 0 := by rw [hf']; show (f.t 2).drop _ = _; rw [t2]; rfl
   have u5 : f'.t 5 = .lp 6 0 := by rw [hf']; show (f.t 5).drop _ = _; rw [t5]; rfl
   have u23 : f'.t 23 = prs g.ands := by rw [hf']; show (f.t 23).drop _ = _; rw [t23]; rfl
   have u24 : f'.t 24 = vi g.ands.length := by rw [hf']; show (f.t 24).drop _ = _; rw [t24]; rfl
   have u25 : f'.t 25 = vi i := by rw [hf']; show (f.t 25).drop _ = _; rw [t25]; rfl
   have ud : f'.d = [] := by rw [hf']; exact hd
   rw [← hf'];clear hf' t1 t2 t5 t23 t24 t25 hd;refine ag (vm ?_);simp only [wq.1, Nat.reduceLT, u24, u25];refine ag (gJ (b := decide ((i : Int) < g.ands.length)) (by simp only [wq.1, ↓reduceIte]) (by simp only [wq.1, ↓reduceIte]) (fun hlt => ?_) (fun hlt => ?_))
   ·simp only [decide_eq_true_eq, Int.ofNat_lt] at hlt;refine vm ?_;simp only [wq.1];have hgp := mZ hlt V.any;refine ag (az ?_);refine ag (vm ?_);simp only [wq.1, seval, u23, u25, hgp];refine ⟨⟨by omega, by omega⟩, ?_⟩;refine bH (Q := fun xe f h => xe = .normal ∧ f.t 1 = .lp 0 0 ∧ f.t 2 = .lp 1 0 ∧ f.t 5 = .lp 6 0 ∧ f.t 23 = prs g.ands ∧ f.t 24 = vi g.ands.length ∧ f.t 25 = vi i ∧ f.d = [] ∧ InN g (bC g (fun _ => true) (i + 1)) h) ?_ ?_
    ·rintro xe f h ⟨rfl, t1, t2, t5, t23, t24, t25, hd, hin⟩;have hw := ak (show i < maxLen by omega);refine vm ?_;simp only [wq.1, seval, t25, hw];exact .inl ⟨m - 1, by omega, i + 1, by omega, by simp only [wq.1, seval, t1], by simp only [wq.1, seval, t2], by simp only [wq.1, seval, t5], by simp only [wq.1, seval, t23], by simp only [wq.1, seval, t24], by simp only [wq.1, ↓reduceIte], by simp only [wq.1, hd], hin⟩
    ·obtain ⟨o1, o2, o3, o4⟩ := fA i5 hlt;have hCb : ∀ x ∈ C, 0 ≤ x ∧ x ≤ 1000000 := fun x hx => by have := q3 x hx; omega
     have hAi : A.length ≤ i := q1;obtain ⟨v1, hv1⟩ : ∃ v1, v1 = bJ C g.ands[i].1 := ⟨_, rfl⟩;obtain ⟨v2, hv2⟩ : ∃ v2, v2 = bJ C g.ands[i].2 := ⟨_, rfl⟩;have b1 := fU (a := g.ands[i].1) (k := g.first + A.length) (by omega) q3;have b2 := fU (a := g.ands[i].2) (k := g.first + A.length) (by omega) q3;rw [← hv1] at b1;rw [← hv2] at b2;obtain ⟨r, hr⟩ : ∃ r, r = jd g.first A v1 v2 := ⟨_, rfl⟩
     have hst2 : bC g (fun _ => true) (i + 1) = (r.1, C ++ [r.2]) := by rw [hst, aO hlt];unfold kQ;rw [if_pos rfl, ← hv1, ← hv2, ← hr]
     rw [hst2];have d1 : V.drops (fun x => x == 8) (g.init.map vi) = g.init.map vi := aQ _;have d2 : V.drops (fun x => x == 8) (C.map vi) = C.map vi := aQ _;refine bg mixed U7 (fun f h => f.t 1 = .lp 0 0 ∧ f.t 2 = .lp 1 0 ∧ f.t 5 = .lp 6 0 ∧ f.t 23 = prs g.ands ∧ f.t 24 = vi g.ands.length ∧ f.t 25 = vi i ∧ f.d = [] ∧ InN g (r.1, C ++ [r.2]) h) (by decide +kernel) (by decide +kernel) ?_ (fun f h hr => ⟨rfl, hr⟩);simp only [wq.1, seval, U7, u5, bo]
     repeat' apply And.intro
     all_goals first
      | decide
      | skip
     all_goals
      refine kN (c := 8) o1 (by omega) (by omega) hCb (by rfl) (by rfl) ?_;simp only [wq.1, seval, ← hv1]
      repeat' apply And.intro
     all_goals first
      | decide
      | skip
     all_goals
      refine kN (c := 8) o2 (by omega) (by omega) hCb (by rfl) (by rfl) ?_;simp only [wq.1, ↓reduceIte, Nat.reduceEqDiff, Nat.reduceLT, Nat.reduceLeDiff, Nat.reduceAdd, Nat.reduceSub, Int.reduceToNat, Nat.reduceDiv, Int.reduceLT, Int.reduceLE, Int.reduceNeg, Int.reduceBEq, Int.reduceBNe, Int.reduceAdd, Int.reduceSub, Nat.reduceBEq, reduceCtorEq, Nat.reduceMul, au, Tryz.results40, bD, u1, u2, u5, u23, u24, u25, ud, ← hv2]
      repeat' apply And.intro
     all_goals
      refine Cj (b := 6) (a := 7) (J := 3) (m := 5) (c := 8) (lc := C.length) (ini := g.init) (nx := g.next) (n1 := g.ins) (f0 := g.first) (A := A) wf i0 (by omega) (by omega) (by omega) (by omega) b1.1 (by omega) b2.1 (by omega) (by rfl) (by rfl) (by rfl) (by rfl) Yv (by decide) (by decide) (by decide) (fun X => ?_);rw [← hr];simp only [wq.1, ↓reduceIte, Nat.reduceEqDiff, Nat.reduceLT, Nat.reduceLeDiff, Nat.reduceAdd, Nat.reduceSub, Int.reduceToNat, Nat.reduceDiv, Int.reduceLT, Int.reduceLE, Int.reduceNeg, Int.reduceBEq, Int.reduceBNe, Int.reduceAdd, Int.reduceSub, Nat.reduceBEq, reduceCtorEq, Nat.reduceMul, au, Tryz.results40, bD, u1, u2, u5, u23, u24, u25, ud, fV, jE, ji, d1, d2];refine ⟨⟨rfl, by decide⟩, ⟨by omega, by omega, by omega⟩, .cells [vi g.ands[i].1, vi g.ands[i].2] :: List.map (O.drop fun x => x == 8) X, ?_⟩;show _ = hN g r.1 (C ++ [r.2]) ++ _;unfold hN bo;rw [List.length_append, List.map_append];rfl
   ·simp only [decide_eq_false_iff_not, Int.ofNat_lt] at hlt;have hi : i = g.ands.length := by omega
    subst hi;refine vm ?_;simp only [wq.1, seval, u1, u2, u5, ud];rw [hs1, hAC];exact ⟨[], (List.append_nil _).symm⟩
def Mo.norm (m : Mo) : Mo := ⟨uS m.g, m.ins, m.lat, m.out⟩
def Mo.nil : Mo := ⟨⟨0, [], [], [], []⟩, [], [], []⟩
def CE (m : Mo) : Mo × Int := if m.chk = 0 then (m.norm, 0) else (.nil, m.chk)
set_option maxHeartbeats 8000000 in
theorem KC (m : Mo) (hs : m.g.Sm) : Ev TE 25 [m.v] (.tup [(CE m).1.v, vi (CE m).2]) := by
 have hck := BK m hs;unfold CE;by_cases hc : m.chk = 0
 ·rw [if_pos hc];have hn := Om (fK hc).1;rw [hc] at hck;unfold Gr.v at hn;unfold Mo.norm Mo.v;unfold Mo.v at hck;refine ax Tryz.func25 rfl (by simp [nts]) (vm ?_);simp only [wq.1, seval, Tryz.results25];refine ah.ev hck (by simp only [V.dats, V.dat, Bool.and_self]) ?_;simp only [wq.1, seval];refine ah.ev hn (by simp only [V.dats, V.dat, Bool.and_self]) ?_;simp only [wq.1, seval];exact aG.dat (by simp only [V.dats, V.dat, Bool.and_self])
 ·rw [if_neg hc];unfold Mo.v at hck ⊢;refine ax Tryz.func25 rfl (by simp [nts]) (vm ?_);simp only [wq.1, seval, Tryz.results25];refine ah.ev hck (by simp only [V.dats, V.dat, Bool.and_self]) ?_;simp only [wq.1, seval, show (m.chk != 0) = true by simpa using hc];show aG TE _ _ (V.tup [.agg [vi 0, aF [], aF [], prs [], aF [], aV [], aV [], aV []], vi m.chk]);exact aG.tup (aC.cons (aG.agg (aC.cons (aG.dat rfl) (aC.cons aG.nils (aC.cons aG.nils (aC.cons aG.nils (aC.cons aG.nils (aC.cons aG.nils (aC.cons aG.nils (aC.cons aG.nils aC.nil))))))))) (aC.dat rfl))
open Go.RowKit
theorem Oo : AO P 66 [.i64, .i64] := by
 refine ⟨by kernel_rfl, fun w xs ys hx hy => ?_⟩
 match xs, hx with
 | [a, b], _ =>
 match ys, hy with
 | [a', b'], _ =>
 have hs : (sizeOf 3).run P w = .ok 1 w := by
  have hi : ∃ i, P.info? 3 = some i := info_of_underlying Tryz.underlying3;obtain ⟨i, hi⟩ := hi;rw [run_sizeOf w hi];have : P.cellsOf 3 = 1 := by kernel_rfl
  rw [this]
 show (Op.equalIn 10000 66 (.agg #[.int .i64 a, .int .i64 b]) (.agg #[.int .i64 a', .int .i64 b'])).run P w = .ok ([a, b] == [a', b']) w;rw [wU Tryz.underlying66 Tryz.underlying3 9998 a b a' b' hs]
 congr 1
 rw [Bool.eq_iff_iff];simp
set_option maxHeartbeats 4000000 in
theorem Oq (c : List Pr) (s : Pr) (hlen : c.length ≤ 1000000) : Ev TE 119 [prs c, prV s] (vi (idx c (· == s))) := by
 have hM : maxLen = 9223372036854775807 := rfl;refine ax Tryz.func119 rfl (by simp [nts]) (vm ?_);simp only [wq.1, seval, Tryz.results119];refine aA (fun m f h => ∃ i, m + i = c.length ∧ f.t 0 = prs c ∧ f.t 3 = .lp 0 0 ∧ f.t 7 = .int .i64 (c.length : Int) ∧ f.t 8 = .int .i64 (i : Int) ∧ f.d = [] ∧ h = [.cells [vi s.1, vi s.2]] ∧ ∀ x ∈ c.take i, (x == s) = false) c.length ⟨0, by simp, rfl, rfl, rfl, rfl, rfl, rfl, by simp⟩ ?_;rintro m f h ⟨i, hm, h0, h3, h7, h8, hdd, rfl, hall⟩;refine vm ?_;simp only [wq.1, seval, h7, h8];refine vcB.mk (fun hc => ?_) (fun hc => ?_)
 ·simp only [decide_eq_true_eq, Int.ofNat_lt] at hc;have hg := mZ hc V.any;simp only [wq.1, seval, h0, h3, h8, hg];have hbe : ([s.1, s.2] == [c[i].1, c[i].2]) = (c[i] == s) := by
   rw [Bool.eq_iff_iff];simp only [beq_iff_eq, List.cons.injEq, and_true];constructor
   ·rintro ⟨h1, h2⟩; exact Prod.ext h1.symm h2.symm
   ·intro h; rw [h]; exact ⟨rfl, rfl⟩
  rw [hbe];refine ⟨by decide +kernel, ⟨by omega, by omega⟩, ?_, vcB.mk (fun hc' => ?_) (fun hc' => ?_)⟩
  ·exact Oo
  ·simp only [wq.1, seval, hdd];rw [pW hc hall hc'];exact aG.dat rfl
  ·simp only [wq.1, seval, h8, ak (show i < maxLen by omega)];exact .inl ⟨m - 1, by omega, i + 1, by omega, h0, h3, h7, rfl, hdd, rfl, bz hc hall hc'⟩
 ·simp only [decide_eq_false_iff_not, Int.ofNat_lt] at hc;simp only [wq.1, seval, hdd];rw [List.take_of_length_le (by omega)] at hall;rw [nJ hall];exact aG.dat rfl
theorem CG (c : List Pr) (s : Pr) (hlen : c.length ≤ 1000000) : Ev TE 69 [prs c, prV s] (.bool (c.any (· == s))) := by
 have hi := Oq c s hlen;refine ax Tryz.func69 rfl (by simp [nts]) (vm ?_);simp only [wq.1, seval, Tryz.results69];refine ah.ev hi (by simp only [V.dats, V.dat, Bool.and_self]) ?_;simp only [wq.1, seval];have : decide (0 ≤ idx c (· == s)) = c.any (· == s) := by
  unfold idx;cases hf : c.findIdx? (· == s) with
  | none =>
   rw [List.findIdx?_eq_none_iff] at hf
   symm
   simp only [show (decide ((0 : Int) ≤ -1)) = false from rfl, List.any_eq_false];exact fun x hx => by rw [hf x hx]; decide
  | some i =>
   obtain ⟨h1, h2, _⟩ := List.findIdx?_eq_some_iff_getElem.1 hf;rw [show decide ((0 : Int) ≤ (i : Int)) = true by simp]
   symm
   rw [List.any_eq_true];exact ⟨_, List.getElem_mem h1, h2⟩
 rw [this];exact aG.dat rfl
def Xk (g : Gr) (i : Nat) : Bool :=
 let p := g.ands.getD i (0, 0)
 decide (p.1 ≤ p.2) || (decide (p.2 ≤ 1) || ((p.1 / 2 == p.2 / 2) || (!((qB g).getD (g.first + (i : Int)).toNat false) || (g.ands.take i).any (· == p))))
def qU (g : Gr) : Bool := !((List.range g.ands.length).any (Xk g))
theorem TN {p : Nat → Bool} {n : Nat} (h : (List.range n).any p = false) : (List.range (n + 1)).any p = p n := by rw [List.range_succ, List.any_append, h]; simp
theorem Yx {p : Nat → Bool} {n i : Nat} (hi : i < n) (h : p i = true) : (List.range n).any p = true := List.any_eq_true.2 ⟨i, List.mem_range.2 hi, h⟩
set_option maxHeartbeats 8000000 in
theorem Ot {g : Gr} (hg : g.chk = 0) : Ev TE 26 [g.v] (.bool (qU g)) := by
 have hM : maxLen = 9223372036854775807 := rfl;obtain ⟨_, i0, i1, i2, i3, i4, i5⟩ := bQ hg;have wf : g.first = 1 + g.ins + g.next.length := rfl
 have hck := qN g ⟨by omega, by omega⟩;rw [hg] at hck;have hld := Oj hg;have hfst := jQ g (by omega) (by omega) (by omega);unfold Gr.v at hck hld hfst ⊢;obtain ⟨L, hL⟩ : ∃ L, L = qB g := ⟨_, rfl⟩;have hLl : L.length = g.vars := by rw [hL]; exact sS
 obtain ⟨n, hn⟩ : ∃ n, n = g.vars := ⟨_, rfl⟩;have hnv : (n : Int) = g.first + g.ands.length := by rw [hn]; unfold Gr.vars; omega
 rw [← hL] at hld;rw [← hn] at hld hLl;have dbl : V.dats (L.map V.bool) = true := Gg _;refine ax Tryz.func26 rfl (by simp [nts]) ?_;refine ag (vm ?_);simp only [wq.1, Nat.reduceLT, Tryz.results26];refine ag (vm ?_);simp only [wq.1, seval];refine ah.ev hck (by simp only [V.dats, V.dat, Bool.and_self]) ?_;simp only [wq.1, seval];refine ag (vm ?_);simp only [wq.1, seval];refine nH hld (by simp only [V.dats, V.dat, Bool.and_self]) dbl ?_;simp only [wq.1, seval];have hcl : dE [O.cells [vi g.ins, aF g.next, aF g.init, prs g.ands, aF g.outs], O.cells (L.map V.bool)] := fun p hp => by
  have d := nN (p := p) (L := L);simp only [wq.1, O.drop, V.drops, V.drop, d]
 refine vm ?_;simp only [wq.1, seval];refine aA (fun m f h => ∃ i X, m + i = g.ands.length ∧ f.t 1 = .lp 0 0 ∧ f.t 3 = .ls 1 1 0 n n ∧ f.t 12 = prs g.ands ∧ f.t 13 = vi g.ands.length ∧ f.t 14 = vi i ∧ f.d = [] ∧ h = [O.cells [vi g.ins, aF g.next, aF g.init, prs g.ands, aF g.outs], O.cells (L.map V.bool)] ++ X ∧ (List.range i).any (Xk g) = false) g.ands.length ⟨0, [], by omega, by simp only [wq.1, seval], by simp only [wq.1, seval], by simp only [wq.1, seval], by simp only [wq.1, seval], by simp only [wq.1, ↓reduceIte]; rfl, by simp only [wq.1], rfl, rfl⟩ ?_;rintro m f h ⟨i, X, hm, t1, t3, t12, t13, t14, hd, rfl, hno⟩;refine dh (by rw [hd]; simp) ?_;rw [hcl.from_];obtain ⟨f', hf'⟩ : ∃ f', f' = f.drop (Abs.bf [O.cells [vi g.ins, aF g.next, aF g.init, prs g.ands, aF g.outs], O.cells (L.map V.bool)].length) := ⟨_, rfl⟩;have u1 : f'.t 1 = .lp 0 0 := by rw [hf']; show (f.t 1).drop _ = _; rw [t1]; rfl
 have u3 : f'.t 3 = .ls 1 1 0 n n := by rw [hf']; show (f.t 3).drop _ = _; rw [t3]; rfl
 have u12 : f'.t 12 = prs g.ands := by rw [hf']; show (f.t 12).drop _ = _; rw [t12]; rfl
 have u13 : f'.t 13 = vi g.ands.length := by rw [hf']; show (f.t 13).drop _ = _; rw [t13]; rfl
 have u14 : f'.t 14 = vi i := by rw [hf']; show (f.t 14).drop _ = _; rw [t14]; rfl
 have ud : f'.d = [] := by rw [hf']; exact hd
 rw [← hf'];clear hf' t1 t3 t12 t13 t14 hd X;refine vm ?_;simp only [wq.1, ↓reduceIte, Nat.reduceEqDiff, Nat.reduceLT, Nat.reduceLeDiff, Nat.reduceAdd, Nat.reduceSub, Int.reduceToNat, Nat.reduceDiv, Int.reduceLT, Int.reduceLE, Int.reduceNeg, Int.reduceBEq, Int.reduceBNe, Int.reduceAdd, Int.reduceSub, Nat.reduceBEq, reduceCtorEq, Nat.reduceMul, au, Tryz.results26, u1, u3, u12, u13, u14, ud];refine vcB.mk (fun hlt => ?_) (fun hlt => ?_)
 ·simp only [decide_eq_true_eq, Int.ofNat_lt] at hlt;have hgp := mZ hlt V.any;obtain ⟨o1, o2, o3, o4⟩ := fA i5 hlt;have wn : IntKind.i64.wrap (g.first + (i : Int)) = g.first + i := dD (by omega) (by omega)
  have hvn : (g.first + (i : Int)).toNat < L.length := by rw [hLl]; omega
  obtain ⟨b, hb⟩ : ∃ b, b = L.getD (g.first + (i : Int)).toNat false := ⟨_, rfl⟩;have hgd : (L.map V.bool).getD ((g.first + (i : Int)).toNat * 1) V.any = V.bool b := by rw [hb, Nat.mul_one, List.getD_eq_getElem?_getD, List.getElem?_map, List.getElem?_eq_getElem hvn];show V.bool _ = V.bool (L.getD _ false);rw [aO hvn]
  have x1 : 0 ≤ g.first + (i : Int) := by omega
  have x2 : g.first + (i : Int) < n := by omega
  have x3 : (g.first + (i : Int)).toNat * 1 + 1 ≤ L.length := by omega
  have hw := ak (show i < maxLen by omega);have s1 : ∀ a : Int, a.fdiv (2 ^ min 1 IntKind.i64.bits) = a / 2 := fun a => by rw [show (2 : Int) ^ min 1 IntKind.i64.bits = 2 from rfl]; exact Int.fdiv_eq_ediv_of_nonneg _ (by decide)
  have hct := CG (g.ands.take i) g.ands[i] (by rw [List.length_take]; omega);obtain ⟨e1, he1⟩ : ∃ e1, e1 = decide (g.ands[i].1 ≤ g.ands[i].2) := ⟨_, rfl⟩;obtain ⟨e2, he2⟩ : ∃ e2, e2 = decide (g.ands[i].2 ≤ 1) := ⟨_, rfl⟩;obtain ⟨e3, he3⟩ : ∃ e3, e3 = (g.ands[i].1 / 2 == g.ands[i].2 / 2) := ⟨_, rfl⟩;obtain ⟨e5, he5⟩ : ∃ e5, e5 = (g.ands.take i).any (· == g.ands[i]) := ⟨_, rfl⟩;rw [← he5] at hct;have hbad : Xk g i = (e1 || (e2 || (e3 || (!b || e5)))) := by unfold Xk;rw [aO hlt, ← hL, he1, he2, he3, hb, he5]
  simp only [wq.1, ↓reduceIte, Nat.reduceEqDiff, Nat.reduceLT, Nat.reduceLeDiff, Nat.reduceAdd, Nat.reduceSub, Int.reduceToNat, Nat.reduceDiv, Int.reduceLT, Int.reduceLE, Int.reduceNeg, Int.reduceBEq, Int.reduceBNe, Int.reduceAdd, Int.reduceSub, Nat.reduceBEq, reduceCtorEq, Nat.reduceMul, au, Tryz.results26, u1, u3, u12, u13, u14, ud, hgp, s1, ← he1, ← he2, ← he3];refine ⟨⟨by omega, by omega⟩, by decide +kernel, by decide, by decide, fun _ => by decide, fun _ => by decide, fun _ => by decide, FW (fun h => by simpa using h) (fun _ => hfst) (by decide +kernel) (fun _ => by simp only [V.dats, V.dat, Bool.and_self]) ?_⟩;simp only [wq.1, ↓reduceIte, Nat.reduceEqDiff, Nat.reduceLT, Nat.reduceLeDiff, Nat.reduceAdd, Int.reduceLE, reduceCtorEq, u1, wn, x1, x2, x3, hgd];rw [show List.take i (List.map prV g.ands) = (g.ands.take i).map prV from List.map_take.symm];refine ⟨fun h => ⟨h, by omega, by omega⟩, FW (fun h => by simpa using h) (fun _ => hct) (by decide +kernel) (fun _ => by simp only [V.dats, V.dat, Bool.and_self]) ?_⟩;simp only [wq.1, seval];rw [show (e1 || e2 || e3 || !b || e5) = Xk g i by rw [hbad]; cases e1 <;> cases e2 <;> cases e3 <;> cases b <;> cases e5 <;> rfl];refine vcB.mk (fun hbd => ?_) (fun hbd => ?_)
  ·simp only [wq.1, seval, ud];unfold qU;rw [Yx hlt hbd];exact aG.dat rfl
  ·simp only [wq.1, seval, u14, hw];exact .inl ⟨m - 1, by omega, i + 1, [_], by omega, by simp only [wq.1, seval, u1], by simp only [wq.1, seval, u3], by simp only [wq.1, seval, u12], by simp only [wq.1, seval, u13], by simp only [wq.1, ↓reduceIte], by simp only [wq.1, ud], rfl, by rw [TN hno, hbd]⟩
 ·simp only [decide_eq_false_iff_not, Int.ofNat_lt] at hlt;have hi : i = g.ands.length := by omega
  subst hi;simp only [wq.1, seval, ud];unfold qU;rw [hno];exact aG.dat rfl
def CJ (A : List Pr) : Prop := (∀ p ∈ A, p.2 < p.1 ∧ 2 ≤ p.2 ∧ p.1 / 2 ≠ p.2 / 2) ∧ A.Nodup
theorem Ou {f0 : Int} {A : List Pr} {p q : Int} (h1 : q < p) (h2 : 2 ≤ q) (h3 : p / 2 ≠ q / 2) (h4 : (p, q) ∉ A) : jd f0 A p q = (A ++ [(p, q)], 2 * (f0 + (A.length : Int))) := by
 have m1 : max p q = p := by omega
 have m2 : min p q = q := by omega
 have hx : xE p ≠ q := by unfold xE; split <;> omega
 unfold jd;rw [m1, m2, if_neg (fun h => h.elim (fun h => by omega) hx), if_neg (by omega)];have : A.findIdx? (· == (p, q)) = none := by
  rw [List.findIdx?_eq_none_iff];intro x hx;simp only [beq_eq_false_iff_ne, ne_eq];rintro rfl;exact h4 hx
 rw [this]
theorem Ov {f0 : Int} {A : List Pr} {p q : Int} (hp : 0 ≤ p) (hq : 0 ≤ q) (h : CJ A) : CJ (jd f0 A p q).1 := by
 unfold jd;split
 ·exact h
 ·rename_i n1;split
  ·exact h
  ·rename_i n2;split
   ·exact h
   ·rename_i hf;rw [List.findIdx?_eq_none_iff] at hf;obtain ⟨P, hP⟩ : ∃ P, P = max p q := ⟨_, rfl⟩;obtain ⟨Q, hQ⟩ : ∃ Q, Q = min p q := ⟨_, rfl⟩;have hb : 0 ≤ Q ∧ Q ≤ P := by omega
    rw [← hP, ← hQ] at n1 n2 hf ⊢;have k1 : Q ≠ 0 := fun e => n1 (.inl e);have k2 : xE P ≠ Q := fun e => n1 (.inr e);have k3 : Q ≠ 1 := fun e => n2 (.inl e);have k4 : P ≠ Q := fun e => n2 (.inr e);have k5 : P / 2 ≠ Q / 2 := by
     intro e;apply k2;unfold xE;split <;> omega
    refine ⟨fun x hx => ?_, ?_⟩
    ·simp only [List.mem_append, List.mem_singleton] at hx;rcases hx with hx | rfl
     ·exact h.1 x hx
     ·exact ⟨by show Q < P; omega, by show 2 ≤ Q; omega, k5⟩
    ·rw [List.nodup_append];refine ⟨h.2, by simp, fun a ha b hb e => ?_⟩;simp only [List.mem_singleton] at hb;subst hb;have := hf a ha;rw [e] at this;simp at this
theorem nO {g : Gr} (h : 0 ≤ g.ins) (use : Nat → Bool) : ∀ i, CJ (bC g use i).1
 | 0 => ⟨fun p hp => by simp [bC] at hp, by simp [bC]⟩
 | i + 1 => by
  have hf := bV h;obtain ⟨h1, h2, h3⟩ := iO h use i;have ih := nO h use i;show CJ (kQ g.first (use i) (bC g use i) (g.ands.getD i (0, 0))).1;generalize bC g use i = s at h1 h2 h3 ih ⊢;generalize g.ands.getD i (0, 0) = p;cases use i with
  | true => exact Ov (fU (a := p.1) (k := g.first + s.1.length) (by omega) h3).1 (fU (a := p.2) (k := g.first + s.1.length) (by omega) h3).1 ih
  | false => exact ih
def nV (use : Nat → Bool) (k : Nat) : Nat := ((List.range k).filter use).length
theorem uV {use : Nat → Bool} {k : Nat} : nV use (k + 1) = nV use k + if use k then 1 else 0 := by unfold nV;rw [List.range_succ, List.filter_append, List.length_append];cases h : use k <;> simp [h]
theorem CO {use : Nat → Bool} {j : Nat} : ∀ {k : Nat}, j ≤ k → nV use j ≤ nV use k
 | 0, h => by rw [show j = 0 by omega]; exact Nat.le_refl _
 | k + 1, h => by
  by_cases hj : j = k + 1
  ·rw [hj]; exact Nat.le_refl _
  ·have := CO (use := use) (j := j) (k := k) (by omega);rw [uV];omega
theorem y5 {use : Nat → Bool} {j k : Nat} (h : j < k) (hu : use j = true) : nV use j < nV use k := by have := CO (use := use) (j := j + 1) (k := k) (by omega);rw [uV, hu] at this;simp at this;omega
def oW (f : Nat) (use : Nat → Bool) (v : Nat) : Nat := if v < f then v else f + nV use (v - f)
def Rq (f : Nat) (use : Nat → Bool) (v : Nat) : Prop := v < f ∨ use (v - f) = true
theorem Fg {f : Nat} {use : Nat → Bool} {v w : Nat} (h : v < w) (hl : Rq f use v) : oW f use v < oW f use w := by
 unfold oW;rcases hl with hl | hl
 ·rw [if_pos hl];split <;> omega
 ·by_cases hv : v < f
  ·rw [if_pos hv];split <;> omega
  ·rw [if_neg hv, if_neg (by omega)];have := y5 (use := use) (j := v - f) (k := w - f) (by omega) hl;omega
theorem Gu {f : Nat} {use : Nat → Bool} {v w : Nat} (hv : Rq f use v) (hw : Rq f use w) (h : oW f use v = oW f use w) : v = w := by
 rcases Nat.lt_trichotomy v w with h1 | h1 | h1
 ·have := Fg h1 hv; omega
 ·exact h1
 ·have := Fg h1 hw; omega
theorem TP {f : Nat} {use : Nat → Bool} {v : Nat} (hf : 0 < f) (h : 0 < v) : 0 < oW f use v := by unfold oW;split <;> omega
def reA (f : Nat) (use : Nat → Bool) (l : Int) : Int := 2 * (oW f use (l / 2).toNat : Int) + l % 2
def rX (g : Gr) (use : Nat → Bool) (i : Nat) : List Pr := ((List.range i).filter use).map fun j => (reA g.first.toNat use (g.ands.getD j (0, 0)).1, reA g.first.toNat use (g.ands.getD j (0, 0)).2)
theorem qj {g : Gr} {use : Nat → Bool} {i : Nat} : (rX g use i).length = nV use i := by unfold rX nV; rw [List.length_map]
theorem lJ {f : Nat} {use : Nat → Bool} {C : Cl} {l : Int} (h : C.getD (l / 2).toNat 0 = 2 * (oW f use (l / 2).toNat : Int)) : bJ C l = reA f use l := by
 unfold bJ reA xE;rw [h];split
 ·rw [if_pos (by omega)]; omega
 ·omega
def Yy (g : Gr) (use : Nat → Bool) : Prop := ∀ i (hi : i < g.ands.length), use i = true → Rq g.first.toNat use (g.ands[i].1 / 2).toNat ∧ Rq g.first.toNat use (g.ands[i].2 / 2).toNat
theorem qV {g : Gr} (hg : g.chk = 0) (hga : CJ g.ands) {use : Nat → Bool} (hu : Yy g use) : ∀ i, i ≤ g.ands.length →
 (bC g use i).1 = rX g use i ∧ ∀ v, v < g.first.toNat + i → Rq g.first.toNat use v → (bC g use i).2.getD v 0 = 2 * (oW g.first.toNat use v : Int) := by
 obtain ⟨_, i0, i1, i2, i3, i4, i5⟩ := bQ hg;have hf := bV i0;intro i
 induction i with
 | zero =>
  intro _;refine ⟨rfl, fun v hv hl => ?_⟩;have hvl : v < (gG g.first.toNat).length := by rw [eF]; omega
  show (gG g.first.toNat).getD v 0 = _;rw [aO hvl];unfold oW;rw [if_pos (by omega)];simp [gG]
 | succ i ih =>
  intro hi;have hlt : i < g.ands.length := by omega
  obtain ⟨a1, a2⟩ := ih (by omega);obtain ⟨h1, h2, h3⟩ := iO i0 use i;obtain ⟨o1, o2, o3, o4⟩ := fA i5 hlt;have hst : bC g use (i + 1) = kQ g.first (use i) (bC g use i) (g.ands.getD i (0, 0)) := rfl
  obtain ⟨A, C, hAC⟩ : ∃ A C, bC g use i = (A, C) := ⟨_, _, rfl⟩;rw [hst, aO hlt];rw [hAC] at a1 a2 h1 h2 h3 ⊢;dsimp only at a1 a2 h1 h2 h3;have hn : oW g.first.toNat use (g.first.toNat + i) = g.first.toNat + nV use i := by unfold oW;rw [if_neg (by omega), Nat.add_sub_cancel_left]
  have hC : ∀ w, ∀ v, v < g.first.toNat + (i + 1) → Rq g.first.toNat use v → (v = g.first.toNat + i → w = 2 * (oW g.first.toNat use v : Int)) → (C ++ [w]).getD v 0 = 2 * (oW g.first.toNat use v : Int) := by
   intro w v hv hl hw;by_cases hvi : v < g.first.toNat + i
   ·have := a2 v hvi hl;rw [List.getD_eq_getElem?_getD, List.getElem?_append_left (by omega), ← List.getD_eq_getElem?_getD];exact this
   ·have hvi : v = g.first.toNat + i := by omega
    rw [List.getD_eq_getElem?_getD, List.getElem?_append_right (by omega), show v - C.length = 0 by omega];exact hw hvi
  cases hui : use i with
  | false =>
   unfold kQ;rw [if_neg (by decide)];refine ⟨?_, fun v hv hl => hC 0 v hv hl fun e => ?_⟩
   ·rw [a1]; unfold rX; rw [List.range_succ, List.filter_append]; simp [hui]
   ·exfalso;rcases hl with hl | hl
    ·omega
    ·rw [e, Nat.add_sub_cancel_left, hui] at hl; cases hl
  | true =>
   obtain ⟨l1, l2⟩ := hu i hlt hui;obtain ⟨g1, g2, g3⟩ := hga.1 _ (List.getElem_mem hlt);have c1 : bJ C g.ands[i].1 = reA g.first.toNat use g.ands[i].1 := lJ (a2 _ (by omega) l1)
   have c2 : bJ C g.ands[i].2 = reA g.first.toNat use g.ands[i].2 := lJ (a2 _ (by omega) l2)
   have n1 := Fg (f := g.first.toNat) (use := use) (v := (g.ands[i].2 / 2).toNat) (w := (g.ands[i].1 / 2).toNat) (by omega) l2;have n2 := TP (f := g.first.toNat) (use := use) (v := (g.ands[i].2 / 2).toNat) (by omega) (by omega);have hmk : jd g.first A (bJ C g.ands[i].1) (bJ C g.ands[i].2) = (A ++ [(reA g.first.toNat use g.ands[i].1, reA g.first.toNat use g.ands[i].2)], 2 * (g.first + (A.length : Int))) := by
    rw [c1, c2];refine Ou ?_ ?_ ?_ ?_
    ·unfold reA; omega
    ·unfold reA; omega
    ·unfold reA; omega
    ·rw [a1];intro hm;unfold rX at hm;simp only [List.mem_map, List.mem_filter, List.mem_range] at hm;obtain ⟨j, ⟨hj, huj⟩, he⟩ := hm;have hjl : j < g.ands.length := by omega
     rw [aO hjl] at he;obtain ⟨m1, m2⟩ := hu j hjl huj;obtain ⟨p1, p2, p3, p4⟩ := fA i5 hjl;have e1 := congrArg Prod.fst he;have e2 := congrArg Prod.snd he;dsimp only at e1 e2;unfold reA at e1 e2;have x1 := Gu m1 l1 (by omega);have x2 := Gu m2 l2 (by omega);have : g.ands[j] = g.ands[i] := Prod.ext (by omega) (by omega);have := (List.getElem_inj hga.2).1 this;omega
   unfold kQ;rw [if_pos rfl, hmk];refine ⟨?_, fun v hv hl => hC _ v hv hl fun e => ?_⟩
   ·show A ++ _ = _;rw [a1]; unfold rX; rw [List.range_succ, List.filter_append]; simp [hui, List.getElem?_eq_getElem hlt]
   ·show 2 * (g.first + (A.length : Int)) = _;rw [e, hn, a1, qj];omega
theorem je {v : List Bool} {l : Int} {w : Nat} : (nU v l).getD w false = ((decide ((l / 2).toNat = w) && decide (w < v.length)) || v.getD w false) := by
 unfold nU;rw [List.getD_eq_getElem?_getD, List.getElem?_set];by_cases h : (l / 2).toNat = w
 ·rw [if_pos h];by_cases hw : w < v.length
  ·rw [if_pos (by omega)]; simp [h, hw]
  ·rw [if_neg (by omega)]; simp [h, hw, List.getD_eq_getElem?_getD, List.getElem?_eq_none (show v.length ≤ w by omega)]
 ·rw [if_neg h]; simp [h, List.getD_eq_getElem?_getD]
theorem y7 {v : List Bool} {l : Int} {w : Nat} (h : v.getD w false = true) : (nU v l).getD w false = true := by rw [je, h, Bool.or_true]
theorem ql {g : Gr} {v : List Bool} {k : Nat} : og g v (k + 1) = if (og g v k).getD (g.first + ((g.ands.length - 1 - k : Nat) : Int)).toNat false then nU (nU (og g v k) (g.ands.getD (g.ands.length - 1 - k) (0, 0)).1) (g.ands.getD (g.ands.length - 1 - k) (0, 0)).2 else og g v k := rfl
theorem uX {g : Gr} {v : List Bool} {w k : Nat} : ∀ {k' : Nat}, k ≤ k' → (og g v k).getD w false = true → (og g v k').getD w false = true
 | 0, h, hk => by rw [show k = 0 by omega] at hk; exact hk
 | k' + 1, h, hk => by
  by_cases he : k = k' + 1
  ·rw [he] at hk; exact hk
  ·have ih := uX (k' := k') (by omega) hk;rw [ql];split
   ·exact y7 (y7 ih)
   ·exact ih
theorem CP {g : Gr} (hg : g.chk = 0) {v : List Bool} {w k : Nat} (hw : g.first + ((g.ands.length - 1 - k : Nat) : Int) ≤ w) : ∀ {k' : Nat}, k ≤ k' → k' ≤ g.ands.length → (og g v k').getD w false = (og g v k).getD w false
 | 0, h, _ => by rw [show k = 0 by omega]
 | k' + 1, h, hl => by
  by_cases he : k = k' + 1
  ·rw [he]
  ·obtain ⟨_, i0, i1, i2, i3, i4, i5⟩ := bQ hg;have ih := CP hg (v := v) hw (k' := k') (by omega) (by omega);have hp : g.ands.length - 1 - k' < g.ands.length := by omega
   obtain ⟨o1, o2, o3, o4⟩ := fA i5 hp;have hf := bV i0;rw [ql, aO hp];split
   ·rw [je, je, ih];have d1 : ((g.ands[g.ands.length - 1 - k'].1 / 2).toNat = w) = False := by simp; omega
    have d2 : ((g.ands[g.ands.length - 1 - k'].2 / 2).toNat = w) = False := by simp; omega
    simp [d1, d2]
   ·exact ih
theorem xG {g : Gr} (hg : g.chk = 0) {i : Nat} (hi : i < g.ands.length) (h : (qB g).getD (g.first + (i : Int)).toNat false = true) :
 (qB g).getD (g.ands[i].1 / 2).toNat false = true ∧ (qB g).getD (g.ands[i].2 / 2).toNat false = true := by
 obtain ⟨_, i0, i1, i2, i3, i4, i5⟩ := bQ hg;have hf := bV i0;obtain ⟨o1, o2, o3, o4⟩ := fA i5 hi;unfold qB at h ⊢;obtain ⟨v, hv⟩ : ∃ v, v = qh g (List.replicate g.vars false) (g.next ++ g.outs).length := ⟨_, rfl⟩;have hvl : v.length = g.vars := by rw [hv, qi, List.length_replicate]
 rw [← hv] at h ⊢;have hk : g.ands.length - 1 - (g.ands.length - 1 - i) = i := by omega
 have hkk := CP hg (v := v) (w := (g.first + (i : Int)).toNat) (k := g.ands.length - 1 - i) (by rw [hk]; omega) (k' := g.ands.length) (by omega) (Nat.le_refl _);rw [hkk] at h;have hs := ql (g := g) (v := v) (k := g.ands.length - 1 - i);rw [hk, if_pos h, aO hi] at hs;have hvv : (g.vars : Int) = g.first + g.ands.length := by
  have : g.first = 1 + g.ins + g.next.length := rfl
  unfold Gr.vars; omega
 have hl : ∀ k, (og g v k).length = g.vars := fun k => by rw [nM, hvl]
 have m1 : (nU (nU (og g v (g.ands.length - 1 - i)) g.ands[i].1) g.ands[i].2).getD (g.ands[i].1 / 2).toNat false = true :=
  y7 (by rw [je, hl]; simp; left; omega)
 have m2 : (nU (nU (og g v (g.ands.length - 1 - i)) g.ands[i].1) g.ands[i].2).getD (g.ands[i].2 / 2).toNat false = true := by rw [je, lI, hl]; simp; left; omega
 rw [← hs] at m1 m2;exact ⟨uX (by omega) m1, uX (by omega) m2⟩
theorem oq {w : Nat} : ∀ {l : List Int} {v : List Bool}, (l.foldl nU v).getD w false = true → v.getD w false = true ∨ ∃ a ∈ l, (a / 2).toNat = w
 | [], v, h => .inl h
 | a :: l, v, h => by
  rcases oq (l := l) h with h | ⟨b, hb, e⟩
  ·rw [je] at h;simp only [Bool.or_eq_true, Bool.and_eq_true, decide_eq_true_eq] at h;rcases h with h | h
   ·exact .inr ⟨a, List.mem_cons_self, h.1⟩
   ·exact .inl h
  ·exact .inr ⟨b, List.mem_cons_of_mem _ hb, e⟩
theorem qm {w : Nat} : ∀ {l : List Int} {v : List Bool}, v.getD w false = true → (l.foldl nU v).getD w false = true
 | [], v, h => h
 | a :: l, v, h => qm (l := l) (y7 h)
theorem qo {w : Nat} : ∀ {l : List Int} {v : List Bool} {a : Int}, a ∈ l → (a / 2).toNat = w → w < v.length → (l.foldl nU v).getD w false = true
 | b :: l, v, a, ha, hw, hl => by
  rcases List.mem_cons.1 ha with rfl | ha
  ·exact qm (l := l) (by rw [je]; simp; left; exact ⟨hw, hl⟩)
  ·exact qo (l := l) ha hw (by rw [lI]; exact hl)
theorem Gv {g : Gr} {v : List Bool} : qh g v (g.next ++ g.outs).length = (g.next ++ g.outs).foldl nU v := by unfold qh;rw [List.take_length]
theorem TQ {g : Gr} (hg : g.chk = 0) {w : Nat} (h : (qB g).getD w false = true) :
 (∃ a ∈ g.next ++ g.outs, (a / 2).toNat = w) ∨ ∃ (j : Nat) (hj : j < g.ands.length), (qB g).getD (g.first + (j : Int)).toNat false = true ∧ ((g.ands[j].1 / 2).toNat = w ∨ (g.ands[j].2 / 2).toNat = w) := by
 obtain ⟨v, hv⟩ : ∃ v, v = qh g (List.replicate g.vars false) (g.next ++ g.outs).length := ⟨_, rfl⟩;have hF : qB g = og g v g.ands.length := by rw [hv]; rfl
 rw [hF] at h ⊢;have go : ∀ k, k ≤ g.ands.length → (og g v k).getD w false = true → (∃ a ∈ g.next ++ g.outs, (a / 2).toNat = w) ∨ ∃ (j : Nat) (hj : j < g.ands.length), (og g v g.ands.length).getD (g.first + (j : Int)).toNat false = true ∧ ((g.ands[j].1 / 2).toNat = w ∨ (g.ands[j].2 / 2).toNat = w) := by
  intro k
  induction k with
  | zero =>
   intro _ h;have h : v.getD w false = true := h;rw [hv, Gv] at h;rcases oq h with h | h
   ·rw [show (List.replicate g.vars false).getD w false = false by rw [List.getD_eq_getElem?_getD, List.getElem?_replicate]; split <;> rfl] at h;cases h
   ·exact .inl h
  | succ k ih =>
   intro hk h;have hp : g.ands.length - 1 - k < g.ands.length := by omega
   rw [ql] at h;split at h
   ·rename_i hb;rw [aO hp, je, je] at h;simp only [Bool.or_eq_true, Bool.and_eq_true, decide_eq_true_eq] at h;have hb2 := uX (g := g) (v := v) (k' := g.ands.length) (by omega) hb;rcases h with h | h | h
    ·exact .inr ⟨_, hp, hb2, .inr h.1⟩
    ·exact .inr ⟨_, hp, hb2, .inl h.1⟩
    ·exact ih (by omega) h
   ·exact ih (by omega) h
 exact go _ (Nat.le_refl _) h
theorem CQ {g : Gr} {w : Nat} {a : Int} (ha : a ∈ g.next ++ g.outs) (hw : (a / 2).toNat = w) (hl : w < g.vars) : (qB g).getD w false = true := by unfold qB;refine uX (k := 0) (Nat.zero_le _) ?_;show (qh g _ _).getD w false = true;rw [Gv];exact qo ha hw (by rw [List.length_replicate]; exact hl)
end Go.Proofs.YtfcpapokknfeeaaGreatDoor
