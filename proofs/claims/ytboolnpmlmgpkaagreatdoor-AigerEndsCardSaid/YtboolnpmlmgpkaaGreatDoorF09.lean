/- Lemmas for the statement of this claim, part F09: they hold with no conditions but those that each one names. -/
import Derived.Test.YtboolnpmlmgpkaaGreatDoorF08
set_option linter.unusedVariables false
set_option maxRecDepth 20000
set_option linter.unusedSimpArgs false
set_option linter.unnecessarySimpa false
namespace Go.Proofs.YtboolnpmlmgpkaaGreatDoor
open Go Go.Proofs Go.Abs
def zch (g : Gr) : Gr :=
 let x := zbp g (zL g (fun _ => true) g.ands.length)
 zbp x (zL x (fun i => (zeR x).getD (x.first + (i : Int)).toNat false) x.ands.length)
def zps : Plan := .take 0 <| .take 1 <| .take 2 <| .take 5 <| .take 6 <| .alt 3 (.alt 4 (.one 7 <| .one 8 <| .one 9 <| .take 10 <| .fin) (.one 7 (.one 4 <| .one 8 <| .one 9 <| .take 10 <| .fin))) (.one 7 (.one 3 <| .one 4 <| .one 8 <| .one 9 <| .take 10 <| .fin))
def ztV : Plan := .take 0 <| .take 1 <| .take 2 <| .take 3 <| .take 5 <| .take 6 <| .take 7 <| .take 10 <| .take 11 <| .alt 4 (.alt 8 (.alt 9 (.one 12 <| .one 13 <| .one 14 <| .one 15 <| .one 16 <| .take 17 <| .take 18 <| .one 19 <| .fin) (.one 12 (.one 9 <| .one 13 <| .one 14 <| .one 15 <| .one 16 <| .take 17 <| .take 18 <| .one 19 <| .fin))) (.one 12 (.one 8 <| .one 9 <| .one 13 <| .one 14 <| .one 15 <| .one 16 <| .take 17 <| .take 18 <| .one 19 <| .fin))) (.alt 8 (.alt 4 (.alt 9 (.one 12 <| .one 13 <| .one 14 <| .one 15 <| .one 16 <| .take 17 <| .take 18 <| .one 19 <| .fin) (.one 12 (.one 9 <| .one 13 <| .one 14 <| .one 15 <| .one 16 <| .take 17 <| .take 18 <| .one 19 <| .fin))) (.alt 9 (.alt 4 (.one 12 <| .one 13 <| .one 14 <| .one 15 <| .one 16 <| .take 17 <| .take 18 <| .one 19 <| .fin) (.one 12 (.alt 4 (.one 13 <| .one 14 <| .one 15 <| .one 16 <| .take 17 <| .take 18 <| .one 19 <| .fin) (.one 13 (.alt 4 (.one 14 <| .one 15 <| .one 16 <| .take 17 <| .take 18 <| .one 19 <| .fin) (.one 14 (.alt 4 (.one 15 <| .one 16 <| .take 17 <| .take 18 <| .one 19 <| .fin) (.one 15 (.one 4 <| .one 16 <| .take 17 <| .take 18 <| .one 19 <| .fin))))))))) (.one 12 (.alt 4 (.one 9 <| .one 13 <| .one 14 <| .one 15 <| .one 16 <| .take 17 <| .take 18 <| .one 19 <| .fin) (.one 9 (.alt 4 (.one 13 <| .one 14 <| .one 15 <| .one 16 <| .take 17 <| .take 18 <| .one 19 <| .fin) (.one 13 (.alt 4 (.one 14 <| .one 15 <| .one 16 <| .take 17 <| .take 18 <| .one 19 <| .fin) (.one 14 (.alt 4 (.one 15 <| .one 16 <| .take 17 <| .take 18 <| .one 19 <| .fin) (.one 15 (.one 4 <| .one 16 <| .take 17 <| .take 18 <| .one 19 <| .fin)))))))))))) (.one 12 (.alt 4 (.one 8 <| .one 9 <| .one 13 <| .one 14 <| .one 15 <| .one 16 <| .take 17 <| .take 18 <| .one 19 <| .fin) (.one 8 (.alt 4 (.one 9 <| .one 13 <| .one 14 <| .one 15 <| .one 16 <| .take 17 <| .take 18 <| .one 19 <| .fin) (.one 9 (.alt 4 (.one 13 <| .one 14 <| .one 15 <| .one 16 <| .take 17 <| .take 18 <| .one 19 <| .fin) (.one 13 (.alt 4 (.one 14 <| .one 15 <| .one 16 <| .take 17 <| .take 18 <| .one 19 <| .fin) (.one 14 (.alt 4 (.one 15 <| .one 16 <| .take 17 <| .take 18 <| .one 19 <| .fin) (.one 15 (.one 4 <| .one 16 <| .take 17 <| .take 18 <| .one 19 <| .fin)))))))))))))
abbrev hN (g : Gr) (A : List Pr) (C : Cl) : H := [.cells [vi g.ins, zy g.next, zy g.init, prs g.ands, zy g.outs], .cells [vi 0, .nils, .nils, .nils, .nils], .cells [vi g.ins, zy g.next, zy g.init, prs g.ands, zy g.outs], .cells (g.init.map vi), .cells [vi g.ins, zy g.next, .ls 3 1 0 g.init.length g.init.length, .nils, .nils], .map (A.map prV) (zkB g.first A.length), bo g.ins g.next 3 g.init.length 7 A.length .nils 5 8 C.length, .cells (fl A), .cells (C.map vi)]
def InN (g : Gr) (s : List Pr × Cl) (h : H) : Prop := ∃ X, h = hN g s.1 s.2 ++ X
theorem zbg {p : Nat → Bool} : ∀ {A : List Pr}, V.drops p (fl A) = fl A
 | [] => rfl
 | a :: A => by show V.drops p (vi a.1 :: vi a.2 :: fl A) = _; simp only [V.drops, V.drop, zbg (A := A)]; rfl
theorem zbG {p : Nat → Bool} : ∀ {A : List Pr}, V.drops p (A.map prV) = A.map prV
 | [] => rfl
 | a :: A => by rw [List.map_cons, V.drops, zbG (A := A)]; rfl
theorem zbw {p : Nat → Bool} {f : Int} {n : Nat} : V.drops p (zkB f n) = zkB f n := by
 unfold zkB
 generalize List.range n = l
 induction l with
 | nil => rfl
 | cons a l ih => rw [List.map_cons, V.drops, ih]; rfl
theorem zfQ {g : Gr} {A : List Pr} {C : Cl} : zae (hN g A C) := fun p hp => by
 have h3 := hp 3 (show 3 < 9 by decide)
 have h5 := hp 5 (show 5 < 9 by decide)
 have h7 := hp 7 (show 7 < 9 by decide)
 have h8 := hp 8 (show 8 < 9 by decide)
 have d1 : V.drops p (g.init.map vi) = g.init.map vi := zD _
 have d2 : V.drops p (C.map vi) = C.map vi := zD _
 simp only [wq.down, ↓reduceIte, hN, bo, O.drop, V.drops, V.drop, h3, h5, h7, h8, d1, d2, zbg, zbG, zbw]
theorem zwn {g : Gr} {A : List Pr} {C : Cl} {x y : Int} : ∀ (j : Nat) (o : O), (hN g A C ++ [.cells [vi x, vi y]])[j]? = some o → j ≠ 6 → o.drop (· == 7) = o := by
 intro j o ho hne
 have d1 : V.drops (· == 7) (g.init.map vi) = g.init.map vi := zD _
 have d2 : V.drops (· == 7) (C.map vi) = C.map vi := zD _
 rcases j with _|_|_|_|_|_|_|_|_|_|j
 all_goals first
  | exact absurd rfl hne
  | (obtain rfl := Option.some.inj ho; simp only [wq.down, seval, O.drop, V.drops, V.drop, d1, d2, zbg, zbG, zbw])
  | (simp at ho)
abbrev hQ (g x : Gr) (L : List Bool) (A : List Pr) (C : Cl) : H := [.cells [vi g.ins, zy g.next, zy g.init, prs g.ands, zy g.outs], .cells [vi 0, .nils, .nils, .nils, .nils], .dead, .dead, .dead, .dead, .dead, .dead, .dead, .dead, .dead, .dead, .dead, .cells [vi x.ins, zy x.next, zy x.init, prs x.ands, zy x.outs], .cells (L.map V.bool), .cells [vi x.ins, zy x.next, zy x.init, prs x.ands, zy x.outs], .cells (x.init.map vi), .cells [vi x.ins, zy x.next, .ls 16 1 0 x.init.length x.init.length, .nils, .nils], .map (A.map prV) (zkB x.first A.length), bo x.ins x.next 16 x.init.length 20 A.length .nils 18 21 C.length, .cells (fl A), .cells (C.map vi)]
def InM (g x : Gr) (L : List Bool) (s : List Pr × Cl) (h : H) : Prop := ∃ X, h = hQ g x L s.1 s.2 ++ X
theorem zdi {p : Nat → Bool} : ∀ {L : List Bool}, V.drops p (L.map V.bool) = L.map V.bool
 | [] => rfl
 | a :: A => by rw [List.map_cons, V.drops, zdi (L := A)]; rfl
theorem zfR {g x : Gr} {L : List Bool} {A : List Pr} {C : Cl} : zae (hQ g x L A C) := fun p hp => by
 have h3 := hp 16 (show 16 < 22 by decide)
 have h5 := hp 18 (show 18 < 22 by decide)
 have h7 := hp 20 (show 20 < 22 by decide)
 have h8 := hp 21 (show 21 < 22 by decide)
 have d1 : V.drops p (x.init.map vi) = x.init.map vi := zD _
 have d2 : V.drops p (C.map vi) = C.map vi := zD _
 simp only [wq.down, ↓reduceIte, hQ, bo, O.drop, V.drops, V.drop, h3, h5, h7, h8, d1, d2, zbg, zbG, zbw, zdi]
theorem zwo {g x : Gr} {L : List Bool} {A : List Pr} {C : Cl} {u v : Int} : ∀ (j : Nat) (o : O), (hQ g x L A C ++ [.cells [vi u, vi v]])[j]? = some o → j ≠ 19 → o.drop (· == 20) = o := by
 intro j o ho hne
 have d1 : V.drops (· == 20) (x.init.map vi) = x.init.map vi := zD _
 have d2 : V.drops (· == 20) (C.map vi) = C.map vi := zD _
 rcases j with _|_|_|_|_|_|_|_|_|_|_|_|_|_|_|_|_|_|_|_|_|_|_|j
 all_goals first
  | exact absurd rfl hne
  | (obtain rfl := Option.some.inj ho; simp only [wq.down, seval, O.drop, V.drops, V.drop, d1, d2, zbg, zbG, zbw, zdi])
  | (simp at ho)
set_option maxHeartbeats 8000000 in
theorem zpt {g : Gr} (hg : g.chk = 0) : Ev TE 30 [g.v] (.tup [(zch g).v, vi 0]) := by
 have hM : maxLen = 9223372036854775807 := rfl
 obtain ⟨_, i0, i1, i2, i3, i4, i5⟩ := zM hg
 obtain ⟨r1, r2, r3, r4⟩ := zaf i4
 have wf : g.first = 1 + g.ins + g.next.length := rfl
 have hck := zey g ⟨by omega, by omega⟩
 rw [hg] at hck
 obtain ⟨y, hy⟩ : ∃ y, y = zch g := ⟨_, rfl⟩
 rw [← hy]
 unfold Gr.v at hck
 rw [show g.v = .agg [vi g.ins, zy g.next, zy g.init, prs g.ands, zy g.outs] from rfl]
 refine zl Tryz.func30 rfl (by simp [nts]) ?_
 refine za (vm ?_)
 simp only [wq.down, Nat.reduceLT, Tryz.results30]
 refine za (vm ?_)
 simp only [wq.down, seval]
 refine zb.ev hck (by simp only [V.dats, V.dat, Bool.and_self]) ?_
 simp only [wq.down, seval]
 refine za (vm ?_)
 simp only [wq.down, seval]
 refine zfP (h := [.cells [vi g.ins, zy g.next, zy g.init, prs g.ands, zy g.outs], .cells [vi 0, .nils, .nils, .nils, .nils]]) (fun p hp => by simp only [wq.down, O.drop, V.drops, V.drop]) hg ?_
 simp only [wq.down, seval]
 obtain ⟨s1, hs1⟩ : ∃ s1, s1 = zL g (fun _ => true) g.ands.length := ⟨_, rfl⟩
 refine za (zP (Q := fun xe f h => xe = .normal ∧ f.t 1 = .lp 0 0 ∧ f.t 2 = .lp 1 0 ∧ f.t 5 = .lp 6 0 ∧ f.d = [] ∧ InN g s1 h) ?_ ?_)
 ·rintro xe f h ⟨rfl, t1, t2, t5, hd, X, rfl⟩
  show awp _ _ _ _ _ _ _
  obtain ⟨q1, q2, q3⟩ := za5 (g := g) i0 (fun _ => true) g.ands.length
  have hxc := zaP hg (fun _ => true)
  rw [← hs1] at q1 q2 q3 hxc
  have hym : y = zbp (zbp g s1) (zL (zbp g s1) (fun i => (zeR (zbp g s1)).getD ((zbp g s1).first + (i : Int)).toNat false) (zbp g s1).ands.length) := by rw [hy, hs1]; rfl
  clear hs1 hy
  obtain ⟨A, C⟩ := s1
  dsimp only at q1 q2 q3 ⊢
  refine zan (by rw [hd]; simp) ?_
  rw [zfQ.from_]
  obtain ⟨f', hf'⟩ : ∃ f', f' = f.drop (Abs.zK (hN g A C).length) := ⟨_, rfl⟩
  have u1 : f'.t 1 = .lp 0 0 := by rw [hf']; show (f.t 1).drop _ = _; rw [t1]; rfl
  have u2 : f'.t 2 = .lp 1 0 := by rw [hf']; show (f.t 2).drop _ = _; rw [t2]; rfl
  have u5 : f'.t 5 = .lp 6 0 := by rw [hf']; show (f.t 5).drop _ = _; rw [t5]; rfl
  have ud : f'.d = [] := by rw [hf']; exact hd
  rw [← hf']
  clear hf' t1 t2 t5 hd
  have hCb : ∀ x ∈ C, 0 ≤ x ∧ x ≤ 1000000 := fun x hx => by have := q3 x hx; omega
  have wa : g.all = 2 * (g.first + g.ands.length) := rfl
  have hcl := zfQ (g := g) (A := A) (C := C)
  refine za (vm ?_)
  simp only [wq.down, seval, u1, u5]
  refine zi4 (x := g) (b := 6) (c := 8) (J := 3) (a := 7) (m := 5) (n1 := g.ins) (nx := g.next) (outs := .nils) (k := g.init.length) (la := A.length) (C := C) hcl (by omega) (by omega) (fun a ha => by have := r3 a ha; omega) (fun a ha => by have := r4 a ha; omega) hCb (by rfl) (by rfl) (fun X Y => ?_)
  simp only [wq.down, seval]
  obtain ⟨x, hx⟩ : ∃ x, x = zbp g (A, C) := ⟨_, rfl⟩
  rw [← hx] at hxc hym
  obtain ⟨p, hp⟩ : ∃ p : Nat → Bool, p = fun i => decide (2 ≤ i) && decide (i ≤ 12) := ⟨_, rfl⟩
  refine zfA p [.cells [vi g.ins, zy g.next, zy g.init, prs g.ands, zy g.outs], .cells [vi 0, .nils, .nils, .nils, .nils], .dead, .dead, .dead, .dead, .dead, .dead, .dead, .dead, .dead, .dead, .dead, .cells [vi x.ins, zy x.next, zy x.init, prs x.ands, zy x.outs]] ?_ ?_ (fun i hi => by simp [znb, ud] at hi) ?_
  ·intro i hi
   rcases i with _|_|i
   ·exact .inl (by rw [hp]; rfl)
   ·exact .inl (by rw [hp]; rfl)
   ·by_cases h11 : i = 11
    ·subst h11
     refine .inr ⟨_, _, rfl, rfl, ?_⟩
     rw [hx]
     refine ⟨.inl rfl, .inr ⟨?_, zao ?_ ?_⟩, .inr ⟨?_, zao ?_ ?_⟩, .inr ⟨?_, ze9 ?_ ?_⟩, .inr ⟨?_, zao ?_ ?_⟩, trivial⟩
     ·rw [hp]; rfl
     ·rw [hp]; show some (O.cells (V.drops _ _)) = _; rw [zD]; rfl
     ·simp [zbp]
     ·rw [hp]; rfl
     ·rw [hp]; show some (O.cells (V.drops _ _)) = _; rw [zD]; rfl
     ·rfl
     ·rw [hp]; rfl
     ·rw [hp]; show some (O.cells (V.drops _ _)) = _; rw [zbg]; rfl
     ·rfl
     ·rw [hp]; rfl
     ·rw [hp]; show some (O.cells (V.drops _ _)) = _; rw [zD]; rfl
     ·simp [zbp]
    ·by_cases hb : i < 11
     ·rw [hp] at hi
      simp only [Bool.and_eq_false_iff, decide_eq_false_iff_not] at hi
      omega
     ·obtain ⟨j, rfl⟩ : ∃ j, i = 12 + j := ⟨i - 12, by omega⟩
      exact .inl (by rw [List.getElem?_eq_none (by simp), List.getElem?_eq_none (by simp)]; rfl)
  ·intro i o hi ho
   rw [hp] at hi
   simp only [Bool.and_eq_true, decide_eq_true_eq] at hi
   rcases i with _|_|_|_|_|_|_|_|_|_|_|_|_|i
   all_goals first
    | omega
    | exact (Option.some.inj ho).symm
  ·refine zuw (fun f' => f'.t 1 = .lp 0 0 ∧ f'.t 2 = .lp 1 0 ∧ f'.t 8 = .lp 13 0 ∧ f'.d = []) [.cells [vi g.ins, zy g.next, zy g.init, prs g.ands, zy g.outs], .cells [vi 0, .nils, .nils, .nils, .nils], .dead, .dead, .dead, .dead, .dead, .dead, .dead, .dead, .dead, .dead, .dead, .cells [vi x.ins, zy x.next, zy x.init, prs x.ands, zy x.outs]] (fun hk => hk _ ⟨?_, ?_, ?_, ?_⟩) ?_
   ·simp only [wq.down, seval, u1, hp]
   ·simp only [wq.down, seval, u2, hp]
   ·simp only [wq.down, seval, hp]
   ·simp only [wq.down, ud]
   ·clear hcl hCb q1 q2 q3 u1 u2 u5 ud hx hp
    clear p f' X Y f
    rintro f ⟨t1, t2, t8, hd⟩
    have hld := zpr hxc
    obtain ⟨_, j0, j1, j2, j3, j4, j5⟩ := zM hxc
    obtain ⟨v1, v2, v3, v4⟩ := zaf j4
    have xf : x.first = 1 + x.ins + x.next.length := rfl
    obtain ⟨L, hL⟩ : ∃ L, L = zeR x := ⟨_, rfl⟩
    have hLl : L.length = x.vars := by rw [hL]; exact zhI
    obtain ⟨n, hn⟩ : ∃ n, n = x.vars := ⟨_, rfl⟩
    have hnv : (n : Int) = x.first + x.ands.length := by rw [hn]; unfold Gr.vars; omega
    rw [← hL] at hld hym
    rw [← hn] at hld hLl
    unfold Gr.v at hld
    have dbl : V.dats (L.map V.bool) = true := zoY _
    have dbo : ∀ p, V.drops p (L.map V.bool) = L.map V.bool := fun p => zdi
    refine za (vm ?_)
    simp only [wq.down, seval, t8]
    refine zde hld (by simp only [V.dats, V.dat, Bool.and_self]) dbl ?_
    simp only [wq.down, seval]
    refine za (vm ?_)
    simp only [wq.down, seval, t8]
    refine zfP (h := [.cells [vi g.ins, zy g.next, zy g.init, prs g.ands, zy g.outs], .cells [vi 0, .nils, .nils, .nils, .nils], .dead, .dead, .dead, .dead, .dead, .dead, .dead, .dead, .dead, .dead, .dead, .cells [vi x.ins, zy x.next, zy x.init, prs x.ands, zy x.outs], .cells (L.map V.bool)]) (fun p hp => by simp only [wq.down, O.drop, V.drops, V.drop, dbo]) hxc ?_
    simp only [wq.down, seval]
    obtain ⟨use, hu⟩ : ∃ use, use = fun i : Nat => L.getD (x.first + (i : Int)).toNat false := ⟨_, rfl⟩
    rw [← hu] at hym
    obtain ⟨s1, hs1⟩ : ∃ s1, s1 = zL x use x.ands.length := ⟨_, rfl⟩
    rw [← hs1] at hym
    refine za (zP (Q := fun xe f h => xe = .normal ∧ f.t 2 = .lp 1 0 ∧ f.t 8 = .lp 13 0 ∧ f.t 10 = .lp 19 0 ∧ f.d = [] ∧ InM g x L s1 h) ?_ ?_)
    ·rintro xe f h ⟨rfl, t2, t8, t10, hd, X, rfl⟩
     show awp _ _ _ _ _ _ _
     obtain ⟨q1, q2, q3⟩ := za5 (g := x) j0 use x.ands.length
     rw [← hs1] at q1 q2 q3
     clear hs1
     obtain ⟨A, C⟩ := s1
     dsimp only at q1 q2 q3 ⊢
     refine zan (by rw [hd]; simp) ?_
     rw [zfR.from_]
     obtain ⟨f', hf'⟩ : ∃ f', f' = f.drop (Abs.zK (hQ g x L A C).length) := ⟨_, rfl⟩
     have u2 : f'.t 2 = .lp 1 0 := by rw [hf']; show (f.t 2).drop _ = _; rw [t2]; rfl
     have u8 : f'.t 8 = .lp 13 0 := by rw [hf']; show (f.t 8).drop _ = _; rw [t8]; rfl
     have u10 : f'.t 10 = .lp 19 0 := by rw [hf']; show (f.t 10).drop _ = _; rw [t10]; rfl
     have ud : f'.d = [] := by rw [hf']; exact hd
     rw [← hf']
     clear hf' t2 t8 t10 hd
     have hCb : ∀ x ∈ C, 0 ≤ x ∧ x ≤ 1000000 := fun x hx => by have := q3 x hx; omega
     have wa : x.all = 2 * (x.first + x.ands.length) := rfl
     have hcl := zfR (g := g) (x := x) (L := L) (A := A) (C := C)
     refine za (vm ?_)
     simp only [wq.down, seval, u8, u10]
     refine zi4 (x := x) (b := 19) (c := 21) (J := 16) (a := 20) (m := 18) (n1 := x.ins) (nx := x.next) (outs := .nils) (k := x.init.length) (la := A.length) (C := C) hcl (by omega) (by omega) (fun a ha => by have := v3 a ha; omega) (fun a ha => by have := v4 a ha; omega) hCb (by rfl) (by rfl) (fun X Y => ?_)
     simp only [wq.down, seval, u2]
     refine vm ?_
     simp only [wq.down, seval, u2, ud]
     rw [hym]
     show zw TE _ _ (V.tup [.agg [vi x.ins, zy (x.next.map (zai C)), zy x.init, prs A, zy (x.outs.map (zai C))], vi 0])
     exact zw.tup (zu.cons (zw.agg (zu.cons (zw.dat rfl) (zu.cons (zao rfl (by simp)) (zu.cons (zao rfl rfl) (zu.cons (ze9 rfl rfl) (zu.cons (zao rfl (by simp)) zu.nil)))))) (zu.dat rfl))
    ·refine za (vm ?_)
     simp only [wq.down, seval, t8]
     refine zj ?_
     refine zt (fun m f h => ∃ i, m + i = x.ands.length ∧ f.t 2 = .lp 1 0 ∧ f.t 8 = .lp 13 0 ∧ f.t 9 = .ls 14 1 0 n n ∧ f.t 10 = .lp 19 0 ∧ f.t 57 = prs x.ands ∧ f.t 58 = vi x.ands.length ∧ f.t 59 = vi i ∧ f.d = [] ∧ InM g x L (zL x use i) h) x.ands.length ⟨0, by omega, by simp only [wq.down, seval, t2], by simp only [wq.down, seval, t8], by simp only [wq.down, seval], by simp only [wq.down, seval], by simp only [wq.down, seval], by simp only [wq.down, seval], by simp only [wq.down, ↓reduceIte]; rfl, by simp only [wq.down, hd], [], ?_⟩ ?_
     ·rw [List.append_nil]
      show _ = hQ g x L [] (zce x.first.toNat)
      unfold hQ bo
      rw [zc5]
      rfl
     ·rintro m f h ⟨i, hm, t2, t8, t9, t10, t57, t58, t59, hd, X, rfl⟩
      obtain ⟨q1, q2, q3⟩ := za5 (g := x) j0 use i
      obtain ⟨A, C, hAC⟩ : ∃ A C, zL x use i = (A, C) := ⟨_, _, rfl⟩
      have hst : zL x use (i + 1) = zcg x.first (use i) (zL x use i) (x.ands.getD i (0, 0)) := rfl
      rw [hAC] at q1 q2 q3 hst ⊢
      dsimp only at q1 q2 q3 ⊢
      refine zan (by rw [hd]; simp) ?_
      rw [zfR.from_]
      obtain ⟨f', hf'⟩ : ∃ f', f' = f.drop (Abs.zK (hQ g x L A C).length) := ⟨_, rfl⟩
      have u2 : f'.t 2 = .lp 1 0 := by rw [hf']; show (f.t 2).drop _ = _; rw [t2]; rfl
      have u8 : f'.t 8 = .lp 13 0 := by rw [hf']; show (f.t 8).drop _ = _; rw [t8]; rfl
      have u9 : f'.t 9 = .ls 14 1 0 n n := by rw [hf']; show (f.t 9).drop _ = _; rw [t9]; rfl
      have u10 : f'.t 10 = .lp 19 0 := by rw [hf']; show (f.t 10).drop _ = _; rw [t10]; rfl
      have u57 : f'.t 57 = prs x.ands := by rw [hf']; show (f.t 57).drop _ = _; rw [t57]; rfl
      have u58 : f'.t 58 = vi x.ands.length := by rw [hf']; show (f.t 58).drop _ = _; rw [t58]; rfl
      have u59 : f'.t 59 = vi i := by rw [hf']; show (f.t 59).drop _ = _; rw [t59]; rfl
      have ud : f'.d = [] := by rw [hf']; exact hd
      rw [← hf']
      clear hf' t2 t8 t9 t10 t57 t58 t59 hd
      refine za (vm ?_)
      simp only [wq.down, Nat.reduceLT, u58, u59]
      refine za (zbe (b := decide ((i : Int) < x.ands.length)) (by simp only [wq.down, ↓reduceIte]) (by simp only [wq.down, ↓reduceIte]) (fun hlt => ?_) (fun hlt => ?_))
      ·simp only [decide_eq_true_eq, Int.ofNat_lt] at hlt
       refine vm ?_
       simp only [wq.down]
       have hgp := zeQ hlt V.any
       have hfst := zbQ x (by omega) (by omega) (by omega)
       have wn : IntKind.i64.wrap (x.first + (i : Int)) = x.first + i := zbN (by omega) (by omega)
       have hvn : (x.first + (i : Int)).toNat < L.length := by rw [hLl]; omega
       have hgd : (L.map V.bool).getD ((x.first + (i : Int)).toNat * 1) V.any = V.bool (use i) := by
        rw [hu, Nat.mul_one, List.getD_eq_getElem?_getD, List.getElem?_map, List.getElem?_eq_getElem hvn]
        show V.bool _ = V.bool (L.getD _ false)
        rw [zA hvn]
       have x1 : 0 ≤ x.first + (i : Int) := by omega
       have x2 : x.first + (i : Int) < n := by omega
       have x3 : (x.first + (i : Int)).toNat * 1 + 1 ≤ L.length := by omega
       obtain ⟨o1, o2, o3, o4⟩ := zas j5 hlt
       have hCb : ∀ x ∈ C, 0 ≤ x ∧ x ≤ 1000000 := fun x hx => by have := q3 x hx; omega
       have hAi : A.length ≤ i := q1
       unfold Gr.v at hfst
       refine za (zj ?_)
       refine za (vm ?_)
       simp only [wq.down, seval, u57, u59, hgp]
       refine ⟨⟨by omega, by omega⟩, ?_⟩
       refine za (vm ?_)
       simp only [wq.down, Nat.reduceLT]
       refine za ?_
       refine za (vm ?_)
       simp only [wq.down, seval, u8, u9]
       refine zb.ev hfst (by simp only [V.dats, V.dat, Bool.and_self]) ?_
       simp only [wq.down, ↓reduceIte, Nat.reduceEqDiff, Nat.reduceLT, wn, x1, x2, x3, hgd]
       obtain ⟨w1, hw1⟩ : ∃ w1, w1 = zai C x.ands[i].1 := ⟨_, rfl⟩
       obtain ⟨w2, hw2⟩ : ∃ w2, w2 = zai C x.ands[i].2 := ⟨_, rfl⟩
       have b1 := za4 (a := x.ands[i].1) (k := x.first + A.length) (by omega) q3
       have b2 := za4 (a := x.ands[i].2) (k := x.first + A.length) (by omega) q3
       rw [← hw1] at b1
       rw [← hw2] at b2
       obtain ⟨r, hr⟩ : ∃ r, r = if use i then zdL x.first A w1 w2 else (A, 0) := ⟨_, rfl⟩
       have hst2 : zL x use (i + 1) = (r.1, C ++ [r.2]) := by
        rw [hst, zA hlt, hr]
        unfold zcg
        cases use i with
        | true => rw [if_pos rfl, if_pos rfl, hw1, hw2]
        | false => rw [if_neg (by decide), if_neg (by decide)]
       refine zP (Q := fun xe f h => xe = .normal ∧ f.t 2 = .lp 1 0 ∧ f.t 8 = .lp 13 0 ∧ f.t 9 = .ls 14 1 0 n n ∧ f.t 10 = .lp 19 0 ∧ f.t 57 = prs x.ands ∧ f.t 58 = vi x.ands.length ∧ f.t 59 = vi i ∧ f.t 13 = vi r.2 ∧ f.d = [] ∧ ∃ X, h = hQ g x L r.1 C ++ X) ?_ ?_
       ·rintro xe f h ⟨rfl, t2, t8, t9, t10, t57, t58, t59, t13, hd, X, rfl⟩
        have hw := zi (show i < maxLen by omega)
        have d1 : V.drops (fun x => x == 21) (x.init.map vi) = x.init.map vi := zD _
        have d2 : V.drops (fun x => x == 21) (C.map vi) = C.map vi := zD _
        show awp _ _ _ _ _ _ _
        refine vm ?_
        simp only [wq.down, ↓reduceIte, Nat.reduceEqDiff, Nat.reduceLT, Nat.reduceAdd, Nat.reduceBEq, reduceCtorEq, Nat.reduceMul, t10, t13, hd, bo, zbg, zbG, zbw, zdi, d1, d2]
        refine ⟨⟨rfl, by decide⟩, ⟨by omega, by omega, by omega⟩, ?_⟩
        refine vm ?_
        simp only [wq.down, seval, t59, hw]
        refine .inl ⟨m - 1, by omega, i + 1, by omega, by simp only [wq.down, seval, t2], by simp only [wq.down, seval, t8], by simp only [wq.down, seval, t9], by simp only [wq.down, seval, t10], by simp only [wq.down, seval, t57], by simp only [wq.down, seval, t58], by simp only [wq.down, ↓reduceIte], by simp only [wq.down, hd], List.map (O.drop fun x => x == 21) X, ?_⟩
        rw [hst2]
        show _ = hQ g x L r.1 (C ++ [r.2]) ++ _
        unfold hQ bo
        rw [List.length_append, List.map_append]
        rfl
       ·refine zbe (b := use i) (by simp only [wq.down, ↓reduceIte]) (by simp only [wq.down, ↓reduceIte]) (fun hb => ?_) (fun hb => ?_)
        ·rw [hb, if_pos rfl] at hr
         refine zN mixed zps (fun f h => f.t 2 = .lp 1 0 ∧ f.t 8 = .lp 13 0 ∧ f.t 9 = .ls 14 1 0 n n ∧ f.t 10 = .lp 19 0 ∧ f.t 57 = prs x.ands ∧ f.t 58 = vi x.ands.length ∧ f.t 59 = vi i ∧ f.t 13 = vi r.2 ∧ f.d = [] ∧ ∃ X, h = hQ g x L r.1 C ++ X) (by decide +kernel) (by decide +kernel) ?_ (fun f h hr => ⟨rfl, hr⟩)
         simp only [wq.down, seval, zps, u10, bo]
         repeat' apply And.intro
         all_goals first
          | decide
          | skip
         all_goals
          refine zcf (c := 21) o1 (by omega) (by omega) hCb (by rfl) (by rfl) ?_
          simp only [wq.down, seval, ← hw1]
          repeat' apply And.intro
         all_goals first
          | decide
          | skip
         all_goals
          refine zcf (c := 21) o2 (by omega) (by omega) hCb (by rfl) (by rfl) ?_
          simp only [wq.down, seval, ← hw2]
          repeat' apply And.intro
         all_goals
          refine zi2 (b := 19) (a := 20) (J := 16) (m := 18) (c := 21) (lc := C.length) (ini := x.init) (nx := x.next) (n1 := x.ins) (f0 := x.first) (A := A) xf j0 (by omega) (by omega) (by omega) (by omega) b1.1 (by omega) b2.1 (by omega) (by rfl) (by rfl) (by rfl) (by rfl) zwo (by decide) (by decide) (by decide) (fun X => ?_)
          rw [← hr]
          simp only [wq.down, seval, zS, u2, u8, u9, u10, u57, u58, u59, ud]
          exact ⟨_, rfl⟩
        ·rw [hb, if_neg (by decide)] at hr
         subst hr
         refine vm ?_
         simp only [wq.down, seval, u2, u8, u9, u10, u57, u58, u59, ud]
         exact ⟨_, rfl⟩
      ·simp only [decide_eq_false_iff_not, Int.ofNat_lt] at hlt
       have hi : i = x.ands.length := by omega
       subst hi
       refine vm ?_
       simp only [wq.down, seval, u2, u8, u10, ud]
       rw [hs1, hAC]
       exact ⟨[], (List.append_nil _).symm⟩
 ·refine za (vm ?_)
  simp only [wq.down, seval]
  refine zj ?_
  refine zt (fun m f h => ∃ i, m + i = g.ands.length ∧ f.t 1 = .lp 0 0 ∧ f.t 2 = .lp 1 0 ∧ f.t 5 = .lp 6 0 ∧ f.t 23 = prs g.ands ∧ f.t 24 = vi g.ands.length ∧ f.t 25 = vi i ∧ f.d = [] ∧ InN g (zL g (fun _ => true) i) h) g.ands.length ⟨0, by omega, by simp only [wq.down, seval], by simp only [wq.down, seval], by simp only [wq.down, seval], by simp only [wq.down, seval], by simp only [wq.down, seval], by simp only [wq.down, ↓reduceIte]; rfl, by simp only [wq.down], [], ?_⟩ ?_
  ·rw [List.append_nil]
   show _ = hN g [] (zce g.first.toNat)
   unfold hN bo
   rw [zc5]
   rfl
  ·rintro m f h ⟨i, hm, t1, t2, t5, t23, t24, t25, hd, X, rfl⟩
   obtain ⟨q1, q2, q3⟩ := za5 (g := g) i0 (fun _ => true) i
   obtain ⟨A, C, hAC⟩ : ∃ A C, zL g (fun _ => true) i = (A, C) := ⟨_, _, rfl⟩
   have hst : zL g (fun _ => true) (i + 1) = zcg g.first true (zL g (fun _ => true) i) (g.ands.getD i (0, 0)) := rfl
   rw [hAC] at q1 q2 q3 hst ⊢
   dsimp only at q1 q2 q3 ⊢
   refine zan (by rw [hd]; simp) ?_
   rw [zfQ.from_]
   obtain ⟨f', hf'⟩ : ∃ f', f' = f.drop (Abs.zK (hN g A C).length) := ⟨_, rfl⟩
   have u1 : f'.t 1 = .lp 0 0 := by rw [hf']; show (f.t 1).drop _ = _; rw [t1]; rfl
   have u2 : f'.t 2 = .lp 1 0 := by rw [hf']; show (f.t 2).drop _ = _; rw [t2]; rfl
   have u5 : f'.t 5 = .lp 6 0 := by rw [hf']; show (f.t 5).drop _ = _; rw [t5]; rfl
   have u23 : f'.t 23 = prs g.ands := by rw [hf']; show (f.t 23).drop _ = _; rw [t23]; rfl
   have u24 : f'.t 24 = vi g.ands.length := by rw [hf']; show (f.t 24).drop _ = _; rw [t24]; rfl
   have u25 : f'.t 25 = vi i := by rw [hf']; show (f.t 25).drop _ = _; rw [t25]; rfl
   have ud : f'.d = [] := by rw [hf']; exact hd
   rw [← hf']
   clear hf' t1 t2 t5 t23 t24 t25 hd
   refine za (vm ?_)
   simp only [wq.down, Nat.reduceLT, u24, u25]
   refine za (zbe (b := decide ((i : Int) < g.ands.length)) (by simp only [wq.down, ↓reduceIte]) (by simp only [wq.down, ↓reduceIte]) (fun hlt => ?_) (fun hlt => ?_))
   ·simp only [decide_eq_true_eq, Int.ofNat_lt] at hlt
    refine vm ?_
    simp only [wq.down]
    have hgp := zeQ hlt V.any
    refine za (zj ?_)
    refine za (vm ?_)
    simp only [wq.down, seval, u23, u25, hgp]
    refine ⟨⟨by omega, by omega⟩, ?_⟩
    refine zP (Q := fun xe f h => xe = .normal ∧ f.t 1 = .lp 0 0 ∧ f.t 2 = .lp 1 0 ∧ f.t 5 = .lp 6 0 ∧ f.t 23 = prs g.ands ∧ f.t 24 = vi g.ands.length ∧ f.t 25 = vi i ∧ f.d = [] ∧ InN g (zL g (fun _ => true) (i + 1)) h) ?_ ?_
    ·rintro xe f h ⟨rfl, t1, t2, t5, t23, t24, t25, hd, hin⟩
     have hw := zi (show i < maxLen by omega)
     refine vm ?_
     simp only [wq.down, seval, t25, hw]
     exact .inl ⟨m - 1, by omega, i + 1, by omega, by simp only [wq.down, seval, t1], by simp only [wq.down, seval, t2], by simp only [wq.down, seval, t5], by simp only [wq.down, seval, t23], by simp only [wq.down, seval, t24], by simp only [wq.down, ↓reduceIte], by simp only [wq.down, hd], hin⟩
    ·obtain ⟨o1, o2, o3, o4⟩ := zas i5 hlt
     have hCb : ∀ x ∈ C, 0 ≤ x ∧ x ≤ 1000000 := fun x hx => by have := q3 x hx; omega
     have hAi : A.length ≤ i := q1
     obtain ⟨v1, hv1⟩ : ∃ v1, v1 = zai C g.ands[i].1 := ⟨_, rfl⟩
     obtain ⟨v2, hv2⟩ : ∃ v2, v2 = zai C g.ands[i].2 := ⟨_, rfl⟩
     have b1 := za4 (a := g.ands[i].1) (k := g.first + A.length) (by omega) q3
     have b2 := za4 (a := g.ands[i].2) (k := g.first + A.length) (by omega) q3
     rw [← hv1] at b1
     rw [← hv2] at b2
     obtain ⟨r, hr⟩ : ∃ r, r = zdL g.first A v1 v2 := ⟨_, rfl⟩
     have hst2 : zL g (fun _ => true) (i + 1) = (r.1, C ++ [r.2]) := by
      rw [hst, zA hlt]
      unfold zcg
      rw [if_pos rfl, ← hv1, ← hv2, ← hr]
     rw [hst2]
     have d1 : V.drops (fun x => x == 8) (g.init.map vi) = g.init.map vi := zD _
     have d2 : V.drops (fun x => x == 8) (C.map vi) = C.map vi := zD _
     refine zN mixed ztV (fun f h => f.t 1 = .lp 0 0 ∧ f.t 2 = .lp 1 0 ∧ f.t 5 = .lp 6 0 ∧ f.t 23 = prs g.ands ∧ f.t 24 = vi g.ands.length ∧ f.t 25 = vi i ∧ f.d = [] ∧ InN g (r.1, C ++ [r.2]) h) (by decide +kernel) (by decide +kernel) ?_ (fun f h hr => ⟨rfl, hr⟩)
     simp only [wq.down, seval, ztV, u5, bo]
     repeat' apply And.intro
     all_goals first
      | decide
      | skip
     all_goals
      refine zcf (c := 8) o1 (by omega) (by omega) hCb (by rfl) (by rfl) ?_
      simp only [wq.down, seval, ← hv1]
      repeat' apply And.intro
     all_goals first
      | decide
      | skip
     all_goals
      refine zcf (c := 8) o2 (by omega) (by omega) hCb (by rfl) (by rfl) ?_
      simp only [wq.down, ↓reduceIte, Nat.reduceEqDiff, Nat.reduceLT, Nat.reduceLeDiff, Nat.reduceAdd, Nat.reduceSub, Int.reduceToNat, Nat.reduceDiv, Int.reduceLT, Int.reduceLE, Int.reduceNeg, Int.reduceBEq, Int.reduceBNe, Int.reduceAdd, Int.reduceSub, Nat.reduceBEq, reduceCtorEq, Nat.reduceMul, zn, Tryz.results30, zS, u1, u2, u5, u23, u24, u25, ud, ← hv2]
      repeat' apply And.intro
     all_goals
      refine zi2 (b := 6) (a := 7) (J := 3) (m := 5) (c := 8) (lc := C.length) (ini := g.init) (nx := g.next) (n1 := g.ins) (f0 := g.first) (A := A) wf i0 (by omega) (by omega) (by omega) (by omega) b1.1 (by omega) b2.1 (by omega) (by rfl) (by rfl) (by rfl) (by rfl) zwn (by decide) (by decide) (by decide) (fun X => ?_)
      rw [← hr]
      simp only [wq.down, ↓reduceIte, Nat.reduceEqDiff, Nat.reduceLT, Nat.reduceLeDiff, Nat.reduceAdd, Nat.reduceSub, Int.reduceToNat, Nat.reduceDiv, Int.reduceLT, Int.reduceLE, Int.reduceNeg, Int.reduceBEq, Int.reduceBNe, Int.reduceAdd, Int.reduceSub, Nat.reduceBEq, reduceCtorEq, Nat.reduceMul, zn, Tryz.results30, zS, u1, u2, u5, u23, u24, u25, ud, zbg, zbG, zbw, d1, d2]
      refine ⟨⟨rfl, by decide⟩, ⟨by omega, by omega, by omega⟩, .cells [vi g.ands[i].1, vi g.ands[i].2] :: List.map (O.drop fun x => x == 8) X, ?_⟩
      show _ = hN g r.1 (C ++ [r.2]) ++ _
      unfold hN bo
      rw [List.length_append, List.map_append]
      rfl
   ·simp only [decide_eq_false_iff_not, Int.ofNat_lt] at hlt
    have hi : i = g.ands.length := by omega
    subst hi
    refine vm ?_
    simp only [wq.down, seval, u1, u2, u5, ud]
    rw [hs1, hAC]
    exact ⟨[], (List.append_nil _).symm⟩
def Mo.norm (m : Mo) : Mo := ⟨zch m.g, m.ins, m.lat, m.out⟩
def Mo.nil : Mo := ⟨⟨0, [], [], [], []⟩, [], [], []⟩
def zpu (m : Mo) : Mo × Int := if m.chk = 0 then (m.norm, 0) else (.nil, m.chk)
set_option maxHeartbeats 8000000 in
theorem zgK (m : Mo) (hs : m.g.Sm) : Ev TE 20 [m.v] (.tup [(zpu m).1.v, vi (zpu m).2]) := by
 have hck := ziM m hs
 unfold zpu
 by_cases hc : m.chk = 0
 ·rw [if_pos hc]
  have hn := zpt (zaW hc).1
  rw [hc] at hck
  unfold Gr.v at hn
  unfold Mo.norm Mo.v
  unfold Mo.v at hck
  refine zl Tryz.func20 rfl (by simp [nts]) (vm ?_)
  simp only [wq.down, seval, Tryz.results20]
  refine zb.ev hck (by simp only [V.dats, V.dat, Bool.and_self]) ?_
  simp only [wq.down, seval]
  refine zb.ev hn (by simp only [V.dats, V.dat, Bool.and_self]) ?_
  simp only [wq.down, seval]
  exact zw.dat (by simp only [V.dats, V.dat, Bool.and_self])
 ·rw [if_neg hc]
  unfold Mo.v at hck ⊢
  refine zl Tryz.func20 rfl (by simp [nts]) (vm ?_)
  simp only [wq.down, seval, Tryz.results20]
  refine zb.ev hck (by simp only [V.dats, V.dat, Bool.and_self]) ?_
  simp only [wq.down, seval, show (m.chk != 0) = true by simpa using hc]
  show zw TE _ _ (V.tup [.agg [vi 0, zy [], zy [], prs [], zy [], zG [], zG [], zG []], vi m.chk])
  exact zw.tup (zu.cons (zw.agg (zu.cons (zw.dat rfl) (zu.cons zw.nils (zu.cons zw.nils (zu.cons zw.nils (zu.cons zw.nils (zu.cons zw.nils (zu.cons zw.nils (zu.cons zw.nils zu.nil))))))))) (zu.dat rfl))
open Go.RowKit
theorem zpv : zic P 106 [.i64, .i64] := by
 refine ⟨by kernel_rfl, fun w xs ys hx hy => ?_⟩
 match xs, hx with
 | [a, b], _ =>
 match ys, hy with
 | [a', b'], _ =>
 have hs : (sizeOf 3).run P w = .ok 1 w := by
  have hi : ∃ i, P.info? 3 = some i := info_of_underlying Tryz.underlying3
  obtain ⟨i, hi⟩ := hi
  rw [run_sizeOf w hi]
  have : P.cellsOf 3 = 1 := by kernel_rfl
  rw [this]
 show (Op.equalIn 10000 106 (.agg #[.int .i64 a, .int .i64 b]) (.agg #[.int .i64 a', .int .i64 b'])).run P w = .ok ([a, b] == [a', b']) w
 rw [zgx Tryz.underlying106 Tryz.underlying3 9998 a b a' b' hs]
 congr 1
 rw [Bool.eq_iff_iff]
 simp
set_option maxHeartbeats 4000000 in
theorem zpw (c : List Pr) (s : Pr) (hlen : c.length ≤ 1000000) : Ev TE 191 [prs c, prV s] (vi (idx c (· == s))) := by
 have hM : maxLen = 9223372036854775807 := rfl
 refine zl Tryz.func191 rfl (by simp [nts]) (vm ?_)
 simp only [wq.down, seval, Tryz.results191]
 refine zt (fun m f h => ∃ i, m + i = c.length ∧ f.t 0 = prs c ∧ f.t 3 = .lp 0 0 ∧ f.t 7 = .int .i64 (c.length : Int) ∧ f.t 8 = .int .i64 (i : Int) ∧ f.d = [] ∧ h = [.cells [vi s.1, vi s.2]] ∧ ∀ x ∈ c.take i, (x == s) = false) c.length ⟨0, by simp, rfl, rfl, rfl, rfl, rfl, rfl, by simp⟩ ?_
 rintro m f h ⟨i, hm, h0, h3, h7, h8, hdd, rfl, hall⟩
 refine vm ?_
 simp only [wq.down, seval, h7, h8]
 refine vcB.mk (fun hc => ?_) (fun hc => ?_)
 ·simp only [decide_eq_true_eq, Int.ofNat_lt] at hc
  have hg := zeQ hc V.any
  simp only [wq.down, seval, h0, h3, h8, hg]
  have hbe : ([s.1, s.2] == [c[i].1, c[i].2]) = (c[i] == s) := by
   rw [Bool.eq_iff_iff]
   simp only [beq_iff_eq, List.cons.injEq, and_true]
   constructor
   ·rintro ⟨h1, h2⟩; exact Prod.ext h1.symm h2.symm
   ·intro h; rw [h]; exact ⟨rfl, rfl⟩
  rw [hbe]
  refine ⟨by decide +kernel, ⟨by omega, by omega⟩, ?_, vcB.mk (fun hc' => ?_) (fun hc' => ?_)⟩
  ·exact zpv
  ·simp only [wq.down, seval, hdd]
   rw [ze7 hc hall hc']
   exact zw.dat rfl
  ·simp only [wq.down, seval, h8, zi (show i < maxLen by omega)]
   exact .inl ⟨m - 1, by omega, i + 1, by omega, h0, h3, h7, rfl, hdd, rfl, za2 hc hall hc'⟩
 ·simp only [decide_eq_false_iff_not, Int.ofNat_lt] at hc
  simp only [wq.down, seval, hdd]
  rw [List.take_of_length_le (by omega)] at hall
  rw [zd6 hall]
  exact zw.dat rfl
theorem zi5 (c : List Pr) (s : Pr) (hlen : c.length ≤ 1000000) : Ev TE 133 [prs c, prV s] (.bool (c.any (· == s))) := by
 have hi := zpw c s hlen
 refine zl Tryz.func133 rfl (by simp [nts]) (vm ?_)
 simp only [wq.down, seval, Tryz.results133]
 refine zb.ev hi (by simp only [V.dats, V.dat, Bool.and_self]) ?_
 simp only [wq.down, seval]
 have : decide (0 ≤ idx c (· == s)) = c.any (· == s) := by
  unfold idx
  cases hf : c.findIdx? (· == s) with
  | none =>
   rw [List.findIdx?_eq_none_iff] at hf
   symm
   simp only [show (decide ((0 : Int) ≤ -1)) = false from rfl, List.any_eq_false]
   exact fun x hx => by rw [hf x hx]; decide
  | some i =>
   obtain ⟨h1, h2, _⟩ := List.findIdx?_eq_some_iff_getElem.1 hf
   rw [show decide ((0 : Int) ≤ (i : Int)) = true by simp]
   symm
   rw [List.any_eq_true]
   exact ⟨_, List.getElem_mem h1, h2⟩
 rw [this]
 exact zw.dat rfl
def zuV (g : Gr) (i : Nat) : Bool :=
 let p := g.ands.getD i (0, 0)
 decide (p.1 ≤ p.2) || (decide (p.2 ≤ 1) || ((p.1 / 2 == p.2 / 2) || (!((zeR g).getD (g.first + (i : Int)).toNat false) || (g.ands.take i).any (· == p))))
def zdM (g : Gr) : Bool := !((List.range g.ands.length).any (zuV g))
theorem zsM {p : Nat → Bool} {n : Nat} (h : (List.range n).any p = false) : (List.range (n + 1)).any p = p n := by
 rw [List.range_succ, List.any_append, h]; simp
theorem zwp {p : Nat → Bool} {n i : Nat} (hi : i < n) (h : p i = true) : (List.range n).any p = true := List.any_eq_true.2 ⟨i, List.mem_range.2 hi, h⟩
set_option maxHeartbeats 8000000 in
theorem zpx {g : Gr} (hg : g.chk = 0) : Ev TE 57 [g.v] (.bool (zdM g)) := by
 have hM : maxLen = 9223372036854775807 := rfl
 obtain ⟨_, i0, i1, i2, i3, i4, i5⟩ := zM hg
 have wf : g.first = 1 + g.ins + g.next.length := rfl
 have hck := zey g ⟨by omega, by omega⟩
 rw [hg] at hck
 have hld := zpr hg
 have hfst := zbQ g (by omega) (by omega) (by omega)
 unfold Gr.v at hck hld hfst ⊢
 obtain ⟨L, hL⟩ : ∃ L, L = zeR g := ⟨_, rfl⟩
 have hLl : L.length = g.vars := by rw [hL]; exact zhI
 obtain ⟨n, hn⟩ : ∃ n, n = g.vars := ⟨_, rfl⟩
 have hnv : (n : Int) = g.first + g.ands.length := by rw [hn]; unfold Gr.vars; omega
 rw [← hL] at hld
 rw [← hn] at hld hLl
 have dbl : V.dats (L.map V.bool) = true := zoY _
 refine zl Tryz.func57 rfl (by simp [nts]) ?_
 refine za (vm ?_)
 simp only [wq.down, Nat.reduceLT, Tryz.results57]
 refine za (vm ?_)
 simp only [wq.down, seval]
 refine zb.ev hck (by simp only [V.dats, V.dat, Bool.and_self]) ?_
 simp only [wq.down, seval]
 refine za (vm ?_)
 simp only [wq.down, seval]
 refine zde hld (by simp only [V.dats, V.dat, Bool.and_self]) dbl ?_
 simp only [wq.down, seval]
 have hcl : zae [O.cells [vi g.ins, zy g.next, zy g.init, prs g.ands, zy g.outs], O.cells (L.map V.bool)] := fun p hp => by
  have d := zdi (p := p) (L := L)
  simp only [wq.down, O.drop, V.drops, V.drop, d]
 refine vm ?_
 simp only [wq.down, seval]
 refine zt (fun m f h => ∃ i X, m + i = g.ands.length ∧ f.t 1 = .lp 0 0 ∧ f.t 3 = .ls 1 1 0 n n ∧ f.t 12 = prs g.ands ∧ f.t 13 = vi g.ands.length ∧ f.t 14 = vi i ∧ f.d = [] ∧ h = [O.cells [vi g.ins, zy g.next, zy g.init, prs g.ands, zy g.outs], O.cells (L.map V.bool)] ++ X ∧ (List.range i).any (zuV g) = false) g.ands.length ⟨0, [], by omega, by simp only [wq.down, seval], by simp only [wq.down, seval], by simp only [wq.down, seval], by simp only [wq.down, seval], by simp only [wq.down, ↓reduceIte]; rfl, by simp only [wq.down], rfl, rfl⟩ ?_
 rintro m f h ⟨i, X, hm, t1, t3, t12, t13, t14, hd, rfl, hno⟩
 refine zan (by rw [hd]; simp) ?_
 rw [hcl.from_]
 obtain ⟨f', hf'⟩ : ∃ f', f' = f.drop (Abs.zK [O.cells [vi g.ins, zy g.next, zy g.init, prs g.ands, zy g.outs], O.cells (L.map V.bool)].length) := ⟨_, rfl⟩
 have u1 : f'.t 1 = .lp 0 0 := by rw [hf']; show (f.t 1).drop _ = _; rw [t1]; rfl
 have u3 : f'.t 3 = .ls 1 1 0 n n := by rw [hf']; show (f.t 3).drop _ = _; rw [t3]; rfl
 have u12 : f'.t 12 = prs g.ands := by rw [hf']; show (f.t 12).drop _ = _; rw [t12]; rfl
 have u13 : f'.t 13 = vi g.ands.length := by rw [hf']; show (f.t 13).drop _ = _; rw [t13]; rfl
 have u14 : f'.t 14 = vi i := by rw [hf']; show (f.t 14).drop _ = _; rw [t14]; rfl
 have ud : f'.d = [] := by rw [hf']; exact hd
 rw [← hf']
 clear hf' t1 t3 t12 t13 t14 hd X
 refine vm ?_
 simp only [wq.down, ↓reduceIte, Nat.reduceEqDiff, Nat.reduceLT, Nat.reduceLeDiff, Nat.reduceAdd, Nat.reduceSub, Int.reduceToNat, Nat.reduceDiv, Int.reduceLT, Int.reduceLE, Int.reduceNeg, Int.reduceBEq, Int.reduceBNe, Int.reduceAdd, Int.reduceSub, Nat.reduceBEq, reduceCtorEq, Nat.reduceMul, zn, Tryz.results57, u1, u3, u12, u13, u14, ud]
 refine vcB.mk (fun hlt => ?_) (fun hlt => ?_)
 ·simp only [decide_eq_true_eq, Int.ofNat_lt] at hlt
  have hgp := zeQ hlt V.any
  obtain ⟨o1, o2, o3, o4⟩ := zas i5 hlt
  have wn : IntKind.i64.wrap (g.first + (i : Int)) = g.first + i := zbN (by omega) (by omega)
  have hvn : (g.first + (i : Int)).toNat < L.length := by rw [hLl]; omega
  obtain ⟨b, hb⟩ : ∃ b, b = L.getD (g.first + (i : Int)).toNat false := ⟨_, rfl⟩
  have hgd : (L.map V.bool).getD ((g.first + (i : Int)).toNat * 1) V.any = V.bool b := by
   rw [hb, Nat.mul_one, List.getD_eq_getElem?_getD, List.getElem?_map, List.getElem?_eq_getElem hvn]
   show V.bool _ = V.bool (L.getD _ false)
   rw [zA hvn]
  have x1 : 0 ≤ g.first + (i : Int) := by omega
  have x2 : g.first + (i : Int) < n := by omega
  have x3 : (g.first + (i : Int)).toNat * 1 + 1 ≤ L.length := by omega
  have hw := zi (show i < maxLen by omega)
  have s1 : ∀ a : Int, a.fdiv (2 ^ min 1 IntKind.i64.bits) = a / 2 := fun a => by
   rw [show (2 : Int) ^ min 1 IntKind.i64.bits = 2 from rfl]; exact Int.fdiv_eq_ediv_of_nonneg _ (by decide)
  have hct := zi5 (g.ands.take i) g.ands[i] (by rw [List.length_take]; omega)
  obtain ⟨e1, he1⟩ : ∃ e1, e1 = decide (g.ands[i].1 ≤ g.ands[i].2) := ⟨_, rfl⟩
  obtain ⟨e2, he2⟩ : ∃ e2, e2 = decide (g.ands[i].2 ≤ 1) := ⟨_, rfl⟩
  obtain ⟨e3, he3⟩ : ∃ e3, e3 = (g.ands[i].1 / 2 == g.ands[i].2 / 2) := ⟨_, rfl⟩
  obtain ⟨e5, he5⟩ : ∃ e5, e5 = (g.ands.take i).any (· == g.ands[i]) := ⟨_, rfl⟩
  rw [← he5] at hct
  have hbad : zuV g i = (e1 || (e2 || (e3 || (!b || e5)))) := by
   unfold zuV
   rw [zA hlt, ← hL, he1, he2, he3, hb, he5]
  simp only [wq.down, ↓reduceIte, Nat.reduceEqDiff, Nat.reduceLT, Nat.reduceLeDiff, Nat.reduceAdd, Nat.reduceSub, Int.reduceToNat, Nat.reduceDiv, Int.reduceLT, Int.reduceLE, Int.reduceNeg, Int.reduceBEq, Int.reduceBNe, Int.reduceAdd, Int.reduceSub, Nat.reduceBEq, reduceCtorEq, Nat.reduceMul, zn, Tryz.results57, u1, u3, u12, u13, u14, ud, hgp, s1, ← he1, ← he2, ← he3]
  refine ⟨⟨by omega, by omega⟩, by decide +kernel, by decide, by decide, fun _ => by decide, fun _ => by decide, fun _ => by decide, zk0 (fun h => by simpa using h) (fun _ => hfst) (by decide +kernel) (fun _ => by simp only [V.dats, V.dat, Bool.and_self]) ?_⟩
  simp only [wq.down, ↓reduceIte, Nat.reduceEqDiff, Nat.reduceLT, Nat.reduceLeDiff, Nat.reduceAdd, Int.reduceLE, reduceCtorEq, u1, wn, x1, x2, x3, hgd]
  rw [show List.take i (List.map prV g.ands) = (g.ands.take i).map prV from List.map_take.symm]
  refine ⟨fun h => ⟨h, by omega, by omega⟩, zk0 (fun h => by simpa using h) (fun _ => hct) (by decide +kernel) (fun _ => by simp only [V.dats, V.dat, Bool.and_self]) ?_⟩
  simp only [wq.down, seval]
  rw [show (e1 || e2 || e3 || !b || e5) = zuV g i by rw [hbad]; cases e1 <;> cases e2 <;> cases e3 <;> cases b <;> cases e5 <;> rfl]
  refine vcB.mk (fun hbd => ?_) (fun hbd => ?_)
  ·simp only [wq.down, seval, ud]
   unfold zdM
   rw [zwp hlt hbd]
   exact zw.dat rfl
  ·simp only [wq.down, seval, u14, hw]
   exact .inl ⟨m - 1, by omega, i + 1, [_], by omega, by simp only [wq.down, seval, u1], by simp only [wq.down, seval, u3], by simp only [wq.down, seval, u12], by simp only [wq.down, seval, u13], by simp only [wq.down, ↓reduceIte], by simp only [wq.down, ud], rfl, by rw [zsM hno, hbd]⟩
 ·simp only [decide_eq_false_iff_not, Int.ofNat_lt] at hlt
  have hi : i = g.ands.length := by omega
  subst hi
  simp only [wq.down, seval, ud]
  unfold zdM
  rw [hno]
  exact zw.dat rfl
def zhJ (A : List Pr) : Prop := (∀ p ∈ A, p.2 < p.1 ∧ 2 ≤ p.2 ∧ p.1 / 2 ≠ p.2 / 2) ∧ A.Nodup
theorem zpy {f0 : Int} {A : List Pr} {p q : Int} (h1 : q < p) (h2 : 2 ≤ q) (h3 : p / 2 ≠ q / 2) (h4 : (p, q) ∉ A) : zdL f0 A p q = (A ++ [(p, q)], 2 * (f0 + (A.length : Int))) := by
 have m1 : max p q = p := by omega
 have m2 : min p q = q := by omega
 have hx : zjZ p ≠ q := by unfold zjZ; split <;> omega
 unfold zdL
 rw [m1, m2, if_neg (fun h => h.elim (fun h => by omega) hx), if_neg (by omega)]
 have : A.findIdx? (· == (p, q)) = none := by
  rw [List.findIdx?_eq_none_iff]
  intro x hx
  simp only [beq_eq_false_iff_ne, ne_eq]
  rintro rfl
  exact h4 hx
 rw [this]
theorem zpz {f0 : Int} {A : List Pr} {p q : Int} (hp : 0 ≤ p) (hq : 0 ≤ q) (h : zhJ A) : zhJ (zdL f0 A p q).1 := by
 unfold zdL
 split
 ·exact h
 ·rename_i n1
  split
  ·exact h
  ·rename_i n2
   split
   ·exact h
   ·rename_i hf
    rw [List.findIdx?_eq_none_iff] at hf
    obtain ⟨P, hP⟩ : ∃ P, P = max p q := ⟨_, rfl⟩
    obtain ⟨Q, hQ⟩ : ∃ Q, Q = min p q := ⟨_, rfl⟩
    have hb : 0 ≤ Q ∧ Q ≤ P := by omega
    rw [← hP, ← hQ] at n1 n2 hf ⊢
    have k1 : Q ≠ 0 := fun e => n1 (.inl e)
    have k2 : zjZ P ≠ Q := fun e => n1 (.inr e)
    have k3 : Q ≠ 1 := fun e => n2 (.inl e)
    have k4 : P ≠ Q := fun e => n2 (.inr e)
    have k5 : P / 2 ≠ Q / 2 := by
     intro e
     apply k2
     unfold zjZ
     split <;> omega
    refine ⟨fun x hx => ?_, ?_⟩
    ·simp only [List.mem_append, List.mem_singleton] at hx
     rcases hx with hx | rfl
     ·exact h.1 x hx
     ·exact ⟨by show Q < P; omega, by show 2 ≤ Q; omega, k5⟩
    ·rw [List.nodup_append]
     refine ⟨h.2, by simp, fun a ha b hb e => ?_⟩
     simp only [List.mem_singleton] at hb
     subst hb
     have := hf a ha
     rw [e] at this
     simp at this
theorem zdj {g : Gr} (h : 0 ≤ g.ins) (use : Nat → Bool) : ∀ i, zhJ (zL g use i).1
 | 0 => ⟨fun p hp => by simp [zL] at hp, by simp [zL]⟩
 | i + 1 => by
  have hf := zat h
  obtain ⟨h1, h2, h3⟩ := za5 h use i
  have ih := zdj h use i
  show zhJ (zcg g.first (use i) (zL g use i) (g.ands.getD i (0, 0))).1
  generalize zL g use i = s at h1 h2 h3 ih ⊢
  generalize g.ands.getD i (0, 0) = p
  cases use i with
  | true => exact zpz (za4 (a := p.1) (k := g.first + s.1.length) (by omega) h3).1 (za4 (a := p.2) (k := g.first + s.1.length) (by omega) h3).1 ih
  | false => exact ih
def zdw (use : Nat → Bool) (k : Nat) : Nat := ((List.range k).filter use).length
theorem zea {use : Nat → Bool} {k : Nat} : zdw use (k + 1) = zdw use k + if use k then 1 else 0 := by
 unfold zdw
 rw [List.range_succ, List.filter_append, List.length_append]
 cases h : use k <;> simp [h]
theorem zi6 {use : Nat → Bool} {j : Nat} : ∀ {k : Nat}, j ≤ k → zdw use j ≤ zdw use k
 | 0, h => by rw [show j = 0 by omega]; exact Nat.le_refl _
 | k + 1, h => by
  by_cases hj : j = k + 1
  ·rw [hj]; exact Nat.le_refl _
  ·have := zi6 (use := use) (j := j) (k := k) (by omega)
   rw [zea]
   omega
theorem zhK {use : Nat → Bool} {j k : Nat} (h : j < k) (hu : use j = true) : zdw use j < zdw use k := by
 have := zi6 (use := use) (j := j + 1) (k := k) (by omega)
 rw [zea, hu] at this
 simp at this
 omega
def zen (f : Nat) (use : Nat → Bool) (v : Nat) : Nat := if v < f then v else f + zdw use (v - f)
def zrM (f : Nat) (use : Nat → Bool) (v : Nat) : Prop := v < f ∨ use (v - f) = true
theorem zkE {f : Nat} {use : Nat → Bool} {v w : Nat} (h : v < w) (hl : zrM f use v) : zen f use v < zen f use w := by
 unfold zen
 rcases hl with hl | hl
 ·rw [if_pos hl]
  split <;> omega
 ·by_cases hv : v < f
  ·rw [if_pos hv]
   split <;> omega
  ·rw [if_neg hv, if_neg (by omega)]
   have := zhK (use := use) (j := v - f) (k := w - f) (by omega) hl
   omega
theorem zlo {f : Nat} {use : Nat → Bool} {v w : Nat} (hv : zrM f use v) (hw : zrM f use w) (h : zen f use v = zen f use w) : v = w := by
 rcases Nat.lt_trichotomy v w with h1 | h1 | h1
 ·have := zkE h1 hv; omega
 ·exact h1
 ·have := zkE h1 hw; omega
theorem zsN {f : Nat} {use : Nat → Bool} {v : Nat} (hf : 0 < f) (h : 0 < v) : 0 < zen f use v := by
 unfold zen
 split <;> omega
def reA (f : Nat) (use : Nat → Bool) (l : Int) : Int := 2 * (zen f use (l / 2).toNat : Int) + l % 2
def zgv (g : Gr) (use : Nat → Bool) (i : Nat) : List Pr := ((List.range i).filter use).map fun j => (reA g.first.toNat use (g.ands.getD j (0, 0)).1, reA g.first.toNat use (g.ands.getD j (0, 0)).2)
theorem zfS {g : Gr} {use : Nat → Bool} {i : Nat} : (zgv g use i).length = zdw use i := by unfold zgv zdw; rw [List.length_map]
theorem zfc {f : Nat} {use : Nat → Bool} {C : Cl} {l : Int} (h : C.getD (l / 2).toNat 0 = 2 * (zen f use (l / 2).toNat : Int)) : zai C l = reA f use l := by
 unfold zai reA zjZ
 rw [h]
 split
 ·rw [if_pos (by omega)]; omega
 ·omega
def zuW (g : Gr) (use : Nat → Bool) : Prop := ∀ i (hi : i < g.ands.length), use i = true → zrM g.first.toNat use (g.ands[i].1 / 2).toNat ∧ zrM g.first.toNat use (g.ands[i].2 / 2).toNat
theorem zeD {g : Gr} (hg : g.chk = 0) (hga : zhJ g.ands) {use : Nat → Bool} (hu : zuW g use) : ∀ i, i ≤ g.ands.length →
 (zL g use i).1 = zgv g use i ∧ ∀ v, v < g.first.toNat + i → zrM g.first.toNat use v → (zL g use i).2.getD v 0 = 2 * (zen g.first.toNat use v : Int) := by
 obtain ⟨_, i0, i1, i2, i3, i4, i5⟩ := zM hg
 have hf := zat i0
 intro i
 induction i with
 | zero =>
  intro _
  refine ⟨rfl, fun v hv hl => ?_⟩
  have hvl : v < (zce g.first.toNat).length := by rw [zc5]; omega
  show (zce g.first.toNat).getD v 0 = _
  rw [zA hvl]
  unfold zen
  rw [if_pos (by omega)]
  simp [zce]
 | succ i ih =>
  intro hi
  have hlt : i < g.ands.length := by omega
  obtain ⟨a1, a2⟩ := ih (by omega)
  obtain ⟨h1, h2, h3⟩ := za5 i0 use i
  obtain ⟨o1, o2, o3, o4⟩ := zas i5 hlt
  have hst : zL g use (i + 1) = zcg g.first (use i) (zL g use i) (g.ands.getD i (0, 0)) := rfl
  obtain ⟨A, C, hAC⟩ : ∃ A C, zL g use i = (A, C) := ⟨_, _, rfl⟩
  rw [hst, zA hlt]
  rw [hAC] at a1 a2 h1 h2 h3 ⊢
  dsimp only at a1 a2 h1 h2 h3
  have hn : zen g.first.toNat use (g.first.toNat + i) = g.first.toNat + zdw use i := by
   unfold zen
   rw [if_neg (by omega), Nat.add_sub_cancel_left]
  have hC : ∀ w, ∀ v, v < g.first.toNat + (i + 1) → zrM g.first.toNat use v → (v = g.first.toNat + i → w = 2 * (zen g.first.toNat use v : Int)) → (C ++ [w]).getD v 0 = 2 * (zen g.first.toNat use v : Int) := by
   intro w v hv hl hw
   by_cases hvi : v < g.first.toNat + i
   ·have := a2 v hvi hl
    rw [List.getD_eq_getElem?_getD, List.getElem?_append_left (by omega), ← List.getD_eq_getElem?_getD]
    exact this
   ·have hvi : v = g.first.toNat + i := by omega
    rw [List.getD_eq_getElem?_getD, List.getElem?_append_right (by omega), show v - C.length = 0 by omega]
    exact hw hvi
  cases hui : use i with
  | false =>
   unfold zcg
   rw [if_neg (by decide)]
   refine ⟨?_, fun v hv hl => hC 0 v hv hl fun e => ?_⟩
   ·rw [a1]; unfold zgv; rw [List.range_succ, List.filter_append]; simp [hui]
   ·exfalso
    rcases hl with hl | hl
    ·omega
    ·rw [e, Nat.add_sub_cancel_left, hui] at hl; cases hl
  | true =>
   obtain ⟨l1, l2⟩ := hu i hlt hui
   obtain ⟨g1, g2, g3⟩ := hga.1 _ (List.getElem_mem hlt)
   have c1 : zai C g.ands[i].1 = reA g.first.toNat use g.ands[i].1 := zfc (a2 _ (by omega) l1)
   have c2 : zai C g.ands[i].2 = reA g.first.toNat use g.ands[i].2 := zfc (a2 _ (by omega) l2)
   have n1 := zkE (f := g.first.toNat) (use := use) (v := (g.ands[i].2 / 2).toNat) (w := (g.ands[i].1 / 2).toNat) (by omega) l2
   have n2 := zsN (f := g.first.toNat) (use := use) (v := (g.ands[i].2 / 2).toNat) (by omega) (by omega)
   have hmk : zdL g.first A (zai C g.ands[i].1) (zai C g.ands[i].2) = (A ++ [(reA g.first.toNat use g.ands[i].1, reA g.first.toNat use g.ands[i].2)], 2 * (g.first + (A.length : Int))) := by
    rw [c1, c2]
    refine zpy ?_ ?_ ?_ ?_
    ·unfold reA; omega
    ·unfold reA; omega
    ·unfold reA; omega
    ·rw [a1]
     intro hm
     unfold zgv at hm
     simp only [List.mem_map, List.mem_filter, List.mem_range] at hm
     obtain ⟨j, ⟨hj, huj⟩, he⟩ := hm
     have hjl : j < g.ands.length := by omega
     rw [zA hjl] at he
     obtain ⟨m1, m2⟩ := hu j hjl huj
     obtain ⟨p1, p2, p3, p4⟩ := zas i5 hjl
     have e1 := congrArg Prod.fst he
     have e2 := congrArg Prod.snd he
     dsimp only at e1 e2
     unfold reA at e1 e2
     have x1 := zlo m1 l1 (by omega)
     have x2 := zlo m2 l2 (by omega)
     have : g.ands[j] = g.ands[i] := Prod.ext (by omega) (by omega)
     have := (List.getElem_inj hga.2).1 this
     omega
   unfold zcg
   rw [if_pos rfl, hmk]
   refine ⟨?_, fun v hv hl => hC _ v hv hl fun e => ?_⟩
   ·show A ++ _ = _
    rw [a1]; unfold zgv; rw [List.range_succ, List.filter_append]; simp [hui, List.getElem?_eq_getElem hlt]
   ·show 2 * (g.first + (A.length : Int)) = _
    rw [e, hn, a1, zfS]
    omega
theorem zbs {v : List Bool} {l : Int} {w : Nat} : (zeC v l).getD w false = ((decide ((l / 2).toNat = w) && decide (w < v.length)) || v.getD w false) := by
 unfold zeC
 rw [List.getD_eq_getElem?_getD, List.getElem?_set]
 by_cases h : (l / 2).toNat = w
 ·rw [if_pos h]
  by_cases hw : w < v.length
  ·rw [if_pos (by omega)]; simp [h, hw]
  ·rw [if_neg (by omega)]; simp [h, hw, List.getD_eq_getElem?_getD, List.getElem?_eq_none (show v.length ≤ w by omega)]
 ·rw [if_neg h]; simp [h, List.getD_eq_getElem?_getD]
theorem zhL {v : List Bool} {l : Int} {w : Nat} (h : v.getD w false = true) : (zeC v l).getD w false = true := by rw [zbs, h, Bool.or_true]
theorem zeb {g : Gr} {v : List Bool} {k : Nat} : zfa g v (k + 1) = if (zfa g v k).getD (g.first + ((g.ands.length - 1 - k : Nat) : Int)).toNat false then zeC (zeC (zfa g v k) (g.ands.getD (g.ands.length - 1 - k) (0, 0)).1) (g.ands.getD (g.ands.length - 1 - k) (0, 0)).2 else zfa g v k := rfl
theorem zfT {g : Gr} {v : List Bool} {w k : Nat} : ∀ {k' : Nat}, k ≤ k' → (zfa g v k).getD w false = true → (zfa g v k').getD w false = true
 | 0, h, hk => by rw [show k = 0 by omega] at hk; exact hk
 | k' + 1, h, hk => by
  by_cases he : k = k' + 1
  ·rw [he] at hk; exact hk
  ·have ih := zfT (k' := k') (by omega) hk
   rw [zeb]
   split
   ·exact zhL (zhL ih)
   ·exact ih
theorem zi7 {g : Gr} (hg : g.chk = 0) {v : List Bool} {w k : Nat} (hw : g.first + ((g.ands.length - 1 - k : Nat) : Int) ≤ w) : ∀ {k' : Nat}, k ≤ k' → k' ≤ g.ands.length → (zfa g v k').getD w false = (zfa g v k).getD w false
 | 0, h, _ => by rw [show k = 0 by omega]
 | k' + 1, h, hl => by
  by_cases he : k = k' + 1
  ·rw [he]
  ·obtain ⟨_, i0, i1, i2, i3, i4, i5⟩ := zM hg
   have ih := zi7 hg (v := v) hw (k' := k') (by omega) (by omega)
   have hp : g.ands.length - 1 - k' < g.ands.length := by omega
   obtain ⟨o1, o2, o3, o4⟩ := zas i5 hp
   have hf := zat i0
   rw [zeb, zA hp]
   split
   ·rw [zbs, zbs, ih]
    have d1 : ((g.ands[g.ands.length - 1 - k'].1 / 2).toNat = w) = False := by simp; omega
    have d2 : ((g.ands[g.ands.length - 1 - k'].2 / 2).toNat = w) = False := by simp; omega
    simp [d1, d2]
   ·exact ih
theorem zgL {g : Gr} (hg : g.chk = 0) {i : Nat} (hi : i < g.ands.length) (h : (zeR g).getD (g.first + (i : Int)).toNat false = true) :
 (zeR g).getD (g.ands[i].1 / 2).toNat false = true ∧ (zeR g).getD (g.ands[i].2 / 2).toNat false = true := by
 obtain ⟨_, i0, i1, i2, i3, i4, i5⟩ := zM hg
 have hf := zat i0
 obtain ⟨o1, o2, o3, o4⟩ := zas i5 hi
 unfold zeR at h ⊢
 obtain ⟨v, hv⟩ : ∃ v, v = zkD g (List.replicate g.vars false) (g.next ++ g.outs).length := ⟨_, rfl⟩
 have hvl : v.length = g.vars := by rw [hv, zln, List.length_replicate]
 rw [← hv] at h ⊢
 have hk : g.ands.length - 1 - (g.ands.length - 1 - i) = i := by omega
 have hkk := zi7 hg (v := v) (w := (g.first + (i : Int)).toNat) (k := g.ands.length - 1 - i) (by rw [hk]; omega) (k' := g.ands.length) (by omega) (Nat.le_refl _)
 rw [hkk] at h
 have hs := zeb (g := g) (v := v) (k := g.ands.length - 1 - i)
 rw [hk, if_pos h, zA hi] at hs
 have hvv : (g.vars : Int) = g.first + g.ands.length := by
  have : g.first = 1 + g.ins + g.next.length := rfl
  unfold Gr.vars; omega
 have hl : ∀ k, (zfa g v k).length = g.vars := fun k => by rw [zfb, hvl]
 have m1 : (zeC (zeC (zfa g v (g.ands.length - 1 - i)) g.ands[i].1) g.ands[i].2).getD (g.ands[i].1 / 2).toNat false = true :=
  zhL (by rw [zbs, hl]; simp; left; omega)
 have m2 : (zeC (zeC (zfa g v (g.ands.length - 1 - i)) g.ands[i].1) g.ands[i].2).getD (g.ands[i].2 / 2).toNat false = true := by
  rw [zbs, zcB, hl]; simp; left; omega
 rw [← hs] at m1 m2
 exact ⟨zfT (by omega) m1, zfT (by omega) m2⟩
theorem zdx {w : Nat} : ∀ {l : List Int} {v : List Bool}, (l.foldl zeC v).getD w false = true → v.getD w false = true ∨ ∃ a ∈ l, (a / 2).toNat = w
 | [], v, h => .inl h
 | a :: l, v, h => by
  rcases zdx (l := l) h with h | ⟨b, hb, e⟩
  ·rw [zbs] at h
   simp only [Bool.or_eq_true, Bool.and_eq_true, decide_eq_true_eq] at h
   rcases h with h | h
   ·exact .inr ⟨a, List.mem_cons_self, h.1⟩
   ·exact .inl h
  ·exact .inr ⟨b, List.mem_cons_of_mem _ hb, e⟩
theorem zec {w : Nat} : ∀ {l : List Int} {v : List Bool}, v.getD w false = true → (l.foldl zeC v).getD w false = true
 | [], v, h => h
 | a :: l, v, h => zec (l := l) (zhL h)
theorem zed {w : Nat} : ∀ {l : List Int} {v : List Bool} {a : Int}, a ∈ l → (a / 2).toNat = w → w < v.length → (l.foldl zeC v).getD w false = true
 | b :: l, v, a, ha, hw, hl => by
  rcases List.mem_cons.1 ha with rfl | ha
  ·exact zec (l := l) (by rw [zbs]; simp; left; exact ⟨hw, hl⟩)
  ·exact zed (l := l) ha hw (by rw [zcB]; exact hl)
theorem zlp {g : Gr} {v : List Bool} : zkD g v (g.next ++ g.outs).length = (g.next ++ g.outs).foldl zeC v := by
 unfold zkD
 rw [List.take_length]
theorem zsO {g : Gr} (hg : g.chk = 0) {w : Nat} (h : (zeR g).getD w false = true) :
 (∃ a ∈ g.next ++ g.outs, (a / 2).toNat = w) ∨ ∃ (j : Nat) (hj : j < g.ands.length), (zeR g).getD (g.first + (j : Int)).toNat false = true ∧ ((g.ands[j].1 / 2).toNat = w ∨ (g.ands[j].2 / 2).toNat = w) := by
 obtain ⟨v, hv⟩ : ∃ v, v = zkD g (List.replicate g.vars false) (g.next ++ g.outs).length := ⟨_, rfl⟩
 have hF : zeR g = zfa g v g.ands.length := by rw [hv]; rfl
 rw [hF] at h ⊢
 have go : ∀ k, k ≤ g.ands.length → (zfa g v k).getD w false = true → (∃ a ∈ g.next ++ g.outs, (a / 2).toNat = w) ∨ ∃ (j : Nat) (hj : j < g.ands.length), (zfa g v g.ands.length).getD (g.first + (j : Int)).toNat false = true ∧ ((g.ands[j].1 / 2).toNat = w ∨ (g.ands[j].2 / 2).toNat = w) := by
  intro k
  induction k with
  | zero =>
   intro _ h
   have h : v.getD w false = true := h
   rw [hv, zlp] at h
   rcases zdx h with h | h
   ·rw [show (List.replicate g.vars false).getD w false = false by rw [List.getD_eq_getElem?_getD, List.getElem?_replicate]; split <;> rfl] at h
    cases h
   ·exact .inl h
  | succ k ih =>
   intro hk h
   have hp : g.ands.length - 1 - k < g.ands.length := by omega
   rw [zeb] at h
   split at h
   ·rename_i hb
    rw [zA hp, zbs, zbs] at h
    simp only [Bool.or_eq_true, Bool.and_eq_true, decide_eq_true_eq] at h
    have hb2 := zfT (g := g) (v := v) (k' := g.ands.length) (by omega) hb
    rcases h with h | h | h
    ·exact .inr ⟨_, hp, hb2, .inr h.1⟩
    ·exact .inr ⟨_, hp, hb2, .inl h.1⟩
    ·exact ih (by omega) h
   ·exact ih (by omega) h
 exact go _ (Nat.le_refl _) h
theorem zpA {g : Gr} {w : Nat} {a : Int} (ha : a ∈ g.next ++ g.outs) (hw : (a / 2).toNat = w) (hl : w < g.vars) : (zeR g).getD w false = true := by
 unfold zeR
 refine zfT (k := 0) (Nat.zero_le _) ?_
 show (zkD g _ _).getD w false = true
 rw [zlp]
 exact zed ha hw (by rw [List.length_replicate]; exact hl)
end Go.Proofs.YtboolnpmlmgpkaaGreatDoor
