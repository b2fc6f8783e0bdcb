/- Lemmas for the statement of this claim, part F09: they hold with no conditions but those that each one names. -/
import Derived.Test.YtfcpapokknfeeaaGreatDoorF08
set_option linter.unusedVariables false
set_option maxRecDepth 20000
set_option linter.unusedSimpArgs false
set_option linter.unnecessarySimpa false
namespace Go.Proofs.YtfcpapokknfeeaaGreatDoor
open Go Go.Proofs Go.Abs
def zas (g : Gr) : Gr :=
 let x := za6 g (zG g (fun _ => true) g.ands.length)
 za6 x (zG x (fun i => (zer x).getD (x.first + (i : Int)).toNat false) x.ands.length)
def znf : Plan := .take 0 <| .take 1 <| .take 2 <| .take 5 <| .take 6 <| .alt 3 (.alt 4 (.one 7 <| .one 8 <| .one 9 <| .take 10 <| .fin) (.one 7 (.one 4 <| .one 8 <| .one 9 <| .take 10 <| .fin))) (.one 7 (.one 3 <| .one 4 <| .one 8 <| .one 9 <| .take 10 <| .fin))
def zpD : Plan := .take 0 <| .take 1 <| .take 2 <| .take 3 <| .take 5 <| .take 6 <| .take 7 <| .take 10 <| .take 11 <| .alt 4 (.alt 8 (.alt 9 (.one 12 <| .one 13 <| .one 14 <| .one 15 <| .one 16 <| .take 17 <| .take 18 <| .one 19 <| .fin) (.one 12 (.one 9 <| .one 13 <| .one 14 <| .one 15 <| .one 16 <| .take 17 <| .take 18 <| .one 19 <| .fin))) (.one 12 (.one 8 <| .one 9 <| .one 13 <| .one 14 <| .one 15 <| .one 16 <| .take 17 <| .take 18 <| .one 19 <| .fin))) (.alt 8 (.alt 4 (.alt 9 (.one 12 <| .one 13 <| .one 14 <| .one 15 <| .one 16 <| .take 17 <| .take 18 <| .one 19 <| .fin) (.one 12 (.one 9 <| .one 13 <| .one 14 <| .one 15 <| .one 16 <| .take 17 <| .take 18 <| .one 19 <| .fin))) (.alt 9 (.alt 4 (.one 12 <| .one 13 <| .one 14 <| .one 15 <| .one 16 <| .take 17 <| .take 18 <| .one 19 <| .fin) (.one 12 (.alt 4 (.one 13 <| .one 14 <| .one 15 <| .one 16 <| .take 17 <| .take 18 <| .one 19 <| .fin) (.one 13 (.alt 4 (.one 14 <| .one 15 <| .one 16 <| .take 17 <| .take 18 <| .one 19 <| .fin) (.one 14 (.alt 4 (.one 15 <| .one 16 <| .take 17 <| .take 18 <| .one 19 <| .fin) (.one 15 (.one 4 <| .one 16 <| .take 17 <| .take 18 <| .one 19 <| .fin))))))))) (.one 12 (.alt 4 (.one 9 <| .one 13 <| .one 14 <| .one 15 <| .one 16 <| .take 17 <| .take 18 <| .one 19 <| .fin) (.one 9 (.alt 4 (.one 13 <| .one 14 <| .one 15 <| .one 16 <| .take 17 <| .take 18 <| .one 19 <| .fin) (.one 13 (.alt 4 (.one 14 <| .one 15 <| .one 16 <| .take 17 <| .take 18 <| .one 19 <| .fin) (.one 14 (.alt 4 (.one 15 <| .one 16 <| .take 17 <| .take 18 <| .one 19 <| .fin) (.one 15 (.one 4 <| .one 16 <| .take 17 <| .take 18 <| .one 19 <| .fin)))))))))))) (.one 12 (.alt 4 (.one 8 <| .one 9 <| .one 13 <| .one 14 <| .one 15 <| .one 16 <| .take 17 <| .take 18 <| .one 19 <| .fin) (.one 8 (.alt 4 (.one 9 <| .one 13 <| .one 14 <| .one 15 <| .one 16 <| .take 17 <| .take 18 <| .one 19 <| .fin) (.one 9 (.alt 4 (.one 13 <| .one 14 <| .one 15 <| .one 16 <| .take 17 <| .take 18 <| .one 19 <| .fin) (.one 13 (.alt 4 (.one 14 <| .one 15 <| .one 16 <| .take 17 <| .take 18 <| .one 19 <| .fin) (.one 14 (.alt 4 (.one 15 <| .one 16 <| .take 17 <| .take 18 <| .one 19 <| .fin) (.one 15 (.one 4 <| .one 16 <| .take 17 <| .take 18 <| .one 19 <| .fin)))))))))))))
abbrev hN (g : Gr) (A : List Pr) (C : Cl) : H := [.cells [vi g.ins, zo g.next, zo g.init, prs g.ands, zo g.outs], .cells [vi 0, .nils, .nils, .nils, .nils], .cells [vi g.ins, zo g.next, zo g.init, prs g.ands, zo g.outs], .cells (g.init.map vi), .cells [vi g.ins, zo g.next, .ls 3 1 0 g.init.length g.init.length, .nils, .nils], .map (A.map prV) (zjv g.first A.length), bo g.ins g.next 3 g.init.length 7 A.length .nils 5 8 C.length, .cells (fl A), .cells (C.map vi)]
def InN (g : Gr) (s : List Pr × Cl) (h : H) : Prop := ∃ X, h = hN g s.1 s.2 ++ X
theorem zaT {p : Nat → Bool} : ∀ {A : List Pr}, V.drops p (fl A) = fl A
 | [] => rfl
 | a :: A => by show V.drops p (vi a.1 :: vi a.2 :: fl A) = _; simp only [V.drops, V.drop, zaT (A := A)]; rfl
theorem zbJ {p : Nat → Bool} : ∀ {A : List Pr}, V.drops p (A.map prV) = A.map prV
 | [] => rfl
 | a :: A => by rw [List.map_cons, V.drops, zbJ (A := A)]; rfl
theorem zbu {p : Nat → Bool} {f : Int} {n : Nat} : V.drops p (zjv f n) = zjv f n := by
 unfold zjv
 generalize List.range n = l
 induction l with
 | nil => rfl
 | cons a l ih => rw [List.map_cons, V.drops, ih]; rfl
theorem zfH {g : Gr} {A : List Pr} {C : Cl} : zbi (hN g A C) := fun p hp => by
 have h3 := hp 3 (show 3 < 9 by decide)
 have h5 := hp 5 (show 5 < 9 by decide)
 have h7 := hp 7 (show 7 < 9 by decide)
 have h8 := hp 8 (show 8 < 9 by decide)
 have d1 : V.drops p (g.init.map vi) = g.init.map vi := zB _
 have d2 : V.drops p (C.map vi) = C.map vi := zB _
 simp only [wq.down, ↓reduceIte, hN, bo, O.drop, V.drops, V.drop, h3, h5, h7, h8, d1, d2, zaT, zbJ, zbu]
theorem zr6 {g : Gr} {A : List Pr} {C : Cl} {x y : Int} : ∀ (j : Nat) (o : O), (hN g A C ++ [.cells [vi x, vi y]])[j]? = some o → j ≠ 6 → o.drop (· == 7) = o := by
 intro j o ho hne
 have d1 : V.drops (· == 7) (g.init.map vi) = g.init.map vi := zB _
 have d2 : V.drops (· == 7) (C.map vi) = C.map vi := zB _
 rcases j with _|_|_|_|_|_|_|_|_|_|j
 all_goals first
  | exact absurd rfl hne
  | (obtain rfl := Option.some.inj ho; simp only [wq.down, seval, O.drop, V.drops, V.drop, d1, d2, zaT, zbJ, zbu])
  | (simp at ho)
abbrev hQ (g x : Gr) (L : List Bool) (A : List Pr) (C : Cl) : H := [.cells [vi g.ins, zo g.next, zo g.init, prs g.ands, zo g.outs], .cells [vi 0, .nils, .nils, .nils, .nils], .dead, .dead, .dead, .dead, .dead, .dead, .dead, .dead, .dead, .dead, .dead, .cells [vi x.ins, zo x.next, zo x.init, prs x.ands, zo x.outs], .cells (L.map V.bool), .cells [vi x.ins, zo x.next, zo x.init, prs x.ands, zo x.outs], .cells (x.init.map vi), .cells [vi x.ins, zo x.next, .ls 16 1 0 x.init.length x.init.length, .nils, .nils], .map (A.map prV) (zjv x.first A.length), bo x.ins x.next 16 x.init.length 20 A.length .nils 18 21 C.length, .cells (fl A), .cells (C.map vi)]
def InM (g x : Gr) (L : List Bool) (s : List Pr × Cl) (h : H) : Prop := ∃ X, h = hQ g x L s.1 s.2 ++ X
theorem zdU {p : Nat → Bool} : ∀ {L : List Bool}, V.drops p (L.map V.bool) = L.map V.bool
 | [] => rfl
 | a :: A => by rw [List.map_cons, V.drops, zdU (L := A)]; rfl
theorem zfI {g x : Gr} {L : List Bool} {A : List Pr} {C : Cl} : zbi (hQ g x L A C) := fun p hp => by
 have h3 := hp 16 (show 16 < 22 by decide)
 have h5 := hp 18 (show 18 < 22 by decide)
 have h7 := hp 20 (show 20 < 22 by decide)
 have h8 := hp 21 (show 21 < 22 by decide)
 have d1 : V.drops p (x.init.map vi) = x.init.map vi := zB _
 have d2 : V.drops p (C.map vi) = C.map vi := zB _
 simp only [wq.down, ↓reduceIte, hQ, bo, O.drop, V.drops, V.drop, h3, h5, h7, h8, d1, d2, zaT, zbJ, zbu, zdU]
theorem zr7 {g x : Gr} {L : List Bool} {A : List Pr} {C : Cl} {u v : Int} : ∀ (j : Nat) (o : O), (hQ g x L A C ++ [.cells [vi u, vi v]])[j]? = some o → j ≠ 19 → o.drop (· == 20) = o := by
 intro j o ho hne
 have d1 : V.drops (· == 20) (x.init.map vi) = x.init.map vi := zB _
 have d2 : V.drops (· == 20) (C.map vi) = C.map vi := zB _
 rcases j with _|_|_|_|_|_|_|_|_|_|_|_|_|_|_|_|_|_|_|_|_|_|_|j
 all_goals first
  | exact absurd rfl hne
  | (obtain rfl := Option.some.inj ho; simp only [wq.down, seval, O.drop, V.drops, V.drop, d1, d2, zaT, zbJ, zbu, zdU])
  | (simp at ho)
set_option maxHeartbeats 8000000 in
theorem zim {g : Gr} (hg : g.chk = 0) : Ev TE 40 [g.v] (.tup [(zas g).v, vi 0]) := by
 have hM : maxLen = 9223372036854775807 := rfl
 obtain ⟨_, i0, i1, i2, i3, i4, i5⟩ := zI hg
 obtain ⟨r1, r2, r3, r4⟩ := zU i4
 have wf : g.first = 1 + g.ins + g.next.length := rfl
 have hck := zek g ⟨by omega, by omega⟩
 rw [hg] at hck
 obtain ⟨y, hy⟩ : ∃ y, y = zas g := ⟨_, rfl⟩
 rw [← hy]
 unfold Gr.v at hck
 rw [show g.v = .agg [vi g.ins, zo g.next, zo g.init, prs g.ands, zo g.outs] from rfl]
 refine zh Tryz.func40 rfl (by simp [nts]) ?_
 refine za (vm ?_)
 simp only [wq.down, Nat.reduceLT, Tryz.results40]
 refine za (vm ?_)
 simp only [wq.down, seval]
 refine zb.ev hck (by simp only [V.dats, V.dat, Bool.and_self]) ?_
 simp only [wq.down, seval]
 refine za (vm ?_)
 simp only [wq.down, seval]
 refine zfG (h := [.cells [vi g.ins, zo g.next, zo g.init, prs g.ands, zo g.outs], .cells [vi 0, .nils, .nils, .nils, .nils]]) (fun p hp => by simp only [wq.down, O.drop, V.drops, V.drop]) hg ?_
 simp only [wq.down, seval]
 obtain ⟨s1, hs1⟩ : ∃ s1, s1 = zG g (fun _ => true) g.ands.length := ⟨_, rfl⟩
 refine za (zN (Q := fun xe f h => xe = .normal ∧ f.t 1 = .lp 0 0 ∧ f.t 2 = .lp 1 0 ∧ f.t 5 = .lp 6 0 ∧ f.d = [] ∧ InN g s1 h) ?_ ?_)
 ·rintro xe f h ⟨rfl, t1, t2, t5, hd, X, rfl⟩
  show awp _ _ _ _ _ _ _
  obtain ⟨q1, q2, q3⟩ := zbf (g := g) i0 (fun _ => true) g.ands.length
  have hxc := zae hg (fun _ => true)
  rw [← hs1] at q1 q2 q3 hxc
  have hym : y = za6 (za6 g s1) (zG (za6 g s1) (fun i => (zer (za6 g s1)).getD ((za6 g s1).first + (i : Int)).toNat false) (za6 g s1).ands.length) := by rw [hy, hs1]; rfl
  clear hs1 hy
  obtain ⟨A, C⟩ := s1
  dsimp only at q1 q2 q3 ⊢
  refine zcN (by rw [hd]; simp) ?_
  rw [zfH.from_]
  obtain ⟨f', hf'⟩ : ∃ f', f' = f.drop (Abs.zf4 (hN g A C).length) := ⟨_, rfl⟩
  have u1 : f'.t 1 = .lp 0 0 := by rw [hf']; show (f.t 1).drop _ = _; rw [t1]; rfl
  have u2 : f'.t 2 = .lp 1 0 := by rw [hf']; show (f.t 2).drop _ = _; rw [t2]; rfl
  have u5 : f'.t 5 = .lp 6 0 := by rw [hf']; show (f.t 5).drop _ = _; rw [t5]; rfl
  have ud : f'.d = [] := by rw [hf']; exact hd
  rw [← hf']
  clear hf' t1 t2 t5 hd
  have hCb : ∀ x ∈ C, 0 ≤ x ∧ x ≤ 1000000 := fun x hx => by have := q3 x hx; omega
  have wa : g.all = 2 * (g.first + g.ands.length) := rfl
  have hcl := zfH (g := g) (A := A) (C := C)
  refine za (vm ?_)
  simp only [wq.down, seval, u1, u5]
  refine zil (x := g) (b := 6) (c := 8) (J := 3) (a := 7) (m := 5) (n1 := g.ins) (nx := g.next) (outs := .nils) (k := g.init.length) (la := A.length) (C := C) hcl (by omega) (by omega) (fun a ha => by have := r3 a ha; omega) (fun a ha => by have := r4 a ha; omega) hCb (by rfl) (by rfl) (fun X Y => ?_)
  simp only [wq.down, seval]
  obtain ⟨x, hx⟩ : ∃ x, x = za6 g (A, C) := ⟨_, rfl⟩
  rw [← hx] at hxc hym
  obtain ⟨p, hp⟩ : ∃ p : Nat → Bool, p = fun i => decide (2 ≤ i) && decide (i ≤ 12) := ⟨_, rfl⟩
  refine zhS p [.cells [vi g.ins, zo g.next, zo g.init, prs g.ands, zo g.outs], .cells [vi 0, .nils, .nils, .nils, .nils], .dead, .dead, .dead, .dead, .dead, .dead, .dead, .dead, .dead, .dead, .dead, .cells [vi x.ins, zo x.next, zo x.init, prs x.ands, zo x.outs]] ?_ ?_ (fun i hi => by simp [zf2, ud] at hi) ?_
  ·intro i hi
   rcases i with _|_|i
   ·exact .inl (by rw [hp]; rfl)
   ·exact .inl (by rw [hp]; rfl)
   ·by_cases h11 : i = 11
    ·subst h11
     refine .inr ⟨_, _, rfl, rfl, ?_⟩
     rw [hx]
     refine ⟨.inl rfl, .inr ⟨?_, z7 ?_ ?_⟩, .inr ⟨?_, z7 ?_ ?_⟩, .inr ⟨?_, zc1 ?_ ?_⟩, .inr ⟨?_, z7 ?_ ?_⟩, trivial⟩
     ·rw [hp]; rfl
     ·rw [hp]; show some (O.cells (V.drops _ _)) = _; rw [zB]; rfl
     ·simp [za6]
     ·rw [hp]; rfl
     ·rw [hp]; show some (O.cells (V.drops _ _)) = _; rw [zB]; rfl
     ·rfl
     ·rw [hp]; rfl
     ·rw [hp]; show some (O.cells (V.drops _ _)) = _; rw [zaT]; rfl
     ·rfl
     ·rw [hp]; rfl
     ·rw [hp]; show some (O.cells (V.drops _ _)) = _; rw [zB]; rfl
     ·simp [za6]
    ·by_cases hb : i < 11
     ·rw [hp] at hi
      simp only [Bool.and_eq_false_iff, decide_eq_false_iff_not] at hi
      omega
     ·obtain ⟨j, rfl⟩ : ∃ j, i = 12 + j := ⟨i - 12, by omega⟩
      exact .inl (by rw [List.getElem?_eq_none (by simp), List.getElem?_eq_none (by simp)]; rfl)
  ·intro i o hi ho
   rw [hp] at hi
   simp only [Bool.and_eq_true, decide_eq_true_eq] at hi
   rcases i with _|_|_|_|_|_|_|_|_|_|_|_|_|i
   all_goals first
    | omega
    | exact (Option.some.inj ho).symm
  ·refine zjb (fun f' => f'.t 1 = .lp 0 0 ∧ f'.t 2 = .lp 1 0 ∧ f'.t 8 = .lp 13 0 ∧ f'.d = []) [.cells [vi g.ins, zo g.next, zo g.init, prs g.ands, zo g.outs], .cells [vi 0, .nils, .nils, .nils, .nils], .dead, .dead, .dead, .dead, .dead, .dead, .dead, .dead, .dead, .dead, .dead, .cells [vi x.ins, zo x.next, zo x.init, prs x.ands, zo x.outs]] (fun hk => hk _ ⟨?_, ?_, ?_, ?_⟩) ?_
   ·simp only [wq.down, seval, u1, hp]
   ·simp only [wq.down, seval, u2, hp]
   ·simp only [wq.down, seval, hp]
   ·simp only [wq.down, ud]
   ·clear hcl hCb q1 q2 q3 u1 u2 u5 ud hx hp
    clear p f' X Y f
    rintro f ⟨t1, t2, t8, hd⟩
    have hld := zqD hxc
    obtain ⟨_, j0, j1, j2, j3, j4, j5⟩ := zI hxc
    obtain ⟨v1, v2, v3, v4⟩ := zU j4
    have xf : x.first = 1 + x.ins + x.next.length := rfl
    obtain ⟨L, hL⟩ : ∃ L, L = zer x := ⟨_, rfl⟩
    have hLl : L.length = x.vars := by rw [hL]; exact zhe
    obtain ⟨n, hn⟩ : ∃ n, n = x.vars := ⟨_, rfl⟩
    have hnv : (n : Int) = x.first + x.ands.length := by rw [hn]; unfold Gr.vars; omega
    rw [← hL] at hld hym
    rw [← hn] at hld hLl
    unfold Gr.v at hld
    have dbl : V.dats (L.map V.bool) = true := zmN _
    have dbo : ∀ p, V.drops p (L.map V.bool) = L.map V.bool := fun p => zdU
    refine za (vm ?_)
    simp only [wq.down, seval, t8]
    refine zeh hld (by simp only [V.dats, V.dat, Bool.and_self]) dbl ?_
    simp only [wq.down, seval]
    refine za (vm ?_)
    simp only [wq.down, seval, t8]
    refine zfG (h := [.cells [vi g.ins, zo g.next, zo g.init, prs g.ands, zo g.outs], .cells [vi 0, .nils, .nils, .nils, .nils], .dead, .dead, .dead, .dead, .dead, .dead, .dead, .dead, .dead, .dead, .dead, .cells [vi x.ins, zo x.next, zo x.init, prs x.ands, zo x.outs], .cells (L.map V.bool)]) (fun p hp => by simp only [wq.down, O.drop, V.drops, V.drop, dbo]) hxc ?_
    simp only [wq.down, seval]
    obtain ⟨use, hu⟩ : ∃ use, use = fun i : Nat => L.getD (x.first + (i : Int)).toNat false := ⟨_, rfl⟩
    rw [← hu] at hym
    obtain ⟨s1, hs1⟩ : ∃ s1, s1 = zG x use x.ands.length := ⟨_, rfl⟩
    rw [← hs1] at hym
    refine za (zN (Q := fun xe f h => xe = .normal ∧ f.t 2 = .lp 1 0 ∧ f.t 8 = .lp 13 0 ∧ f.t 10 = .lp 19 0 ∧ f.d = [] ∧ InM g x L s1 h) ?_ ?_)
    ·rintro xe f h ⟨rfl, t2, t8, t10, hd, X, rfl⟩
     show awp _ _ _ _ _ _ _
     obtain ⟨q1, q2, q3⟩ := zbf (g := x) j0 use x.ands.length
     rw [← hs1] at q1 q2 q3
     clear hs1
     obtain ⟨A, C⟩ := s1
     dsimp only at q1 q2 q3 ⊢
     refine zcN (by rw [hd]; simp) ?_
     rw [zfI.from_]
     obtain ⟨f', hf'⟩ : ∃ f', f' = f.drop (Abs.zf4 (hQ g x L A C).length) := ⟨_, rfl⟩
     have u2 : f'.t 2 = .lp 1 0 := by rw [hf']; show (f.t 2).drop _ = _; rw [t2]; rfl
     have u8 : f'.t 8 = .lp 13 0 := by rw [hf']; show (f.t 8).drop _ = _; rw [t8]; rfl
     have u10 : f'.t 10 = .lp 19 0 := by rw [hf']; show (f.t 10).drop _ = _; rw [t10]; rfl
     have ud : f'.d = [] := by rw [hf']; exact hd
     rw [← hf']
     clear hf' t2 t8 t10 hd
     have hCb : ∀ x ∈ C, 0 ≤ x ∧ x ≤ 1000000 := fun x hx => by have := q3 x hx; omega
     have wa : x.all = 2 * (x.first + x.ands.length) := rfl
     have hcl := zfI (g := g) (x := x) (L := L) (A := A) (C := C)
     refine za (vm ?_)
     simp only [wq.down, seval, u8, u10]
     refine zil (x := x) (b := 19) (c := 21) (J := 16) (a := 20) (m := 18) (n1 := x.ins) (nx := x.next) (outs := .nils) (k := x.init.length) (la := A.length) (C := C) hcl (by omega) (by omega) (fun a ha => by have := v3 a ha; omega) (fun a ha => by have := v4 a ha; omega) hCb (by rfl) (by rfl) (fun X Y => ?_)
     simp only [wq.down, seval, u2]
     refine vm ?_
     simp only [wq.down, seval, u2, ud]
     rw [hym]
     show zn TE _ _ (V.tup [.agg [vi x.ins, zo (x.next.map (zK C)), zo x.init, prs A, zo (x.outs.map (zK C))], vi 0])
     exact zn.tup (zj.cons (zn.agg (zj.cons (zn.dat rfl) (zj.cons (z7 rfl (by simp)) (zj.cons (z7 rfl rfl) (zj.cons (zc1 rfl rfl) (zj.cons (z7 rfl (by simp)) zj.nil)))))) (zj.dat rfl))
    ·refine za (vm ?_)
     simp only [wq.down, seval, t8]
     refine zy ?_
     refine zp (fun m f h => ∃ i, m + i = x.ands.length ∧ f.t 2 = .lp 1 0 ∧ f.t 8 = .lp 13 0 ∧ f.t 9 = .ls 14 1 0 n n ∧ f.t 10 = .lp 19 0 ∧ f.t 57 = prs x.ands ∧ f.t 58 = vi x.ands.length ∧ f.t 59 = vi i ∧ f.d = [] ∧ InM g x L (zG x use i) h) x.ands.length ⟨0, by omega, by simp only [wq.down, seval, t2], by simp only [wq.down, seval, t8], by simp only [wq.down, seval], by simp only [wq.down, seval], by simp only [wq.down, seval], by simp only [wq.down, seval], by simp only [wq.down, ↓reduceIte]; rfl, by simp only [wq.down, hd], [], ?_⟩ ?_
     ·rw [List.append_nil]
      show _ = hQ g x L [] (zaJ x.first.toNat)
      unfold hQ bo
      rw [zaq]
      rfl
     ·rintro m f h ⟨i, hm, t2, t8, t9, t10, t57, t58, t59, hd, X, rfl⟩
      obtain ⟨q1, q2, q3⟩ := zbf (g := x) j0 use i
      obtain ⟨A, C, hAC⟩ : ∃ A C, zG x use i = (A, C) := ⟨_, _, rfl⟩
      have hst : zG x use (i + 1) = zb3 x.first (use i) (zG x use i) (x.ands.getD i (0, 0)) := rfl
      rw [hAC] at q1 q2 q3 hst ⊢
      dsimp only at q1 q2 q3 ⊢
      refine zcN (by rw [hd]; simp) ?_
      rw [zfI.from_]
      obtain ⟨f', hf'⟩ : ∃ f', f' = f.drop (Abs.zf4 (hQ g x L A C).length) := ⟨_, rfl⟩
      have u2 : f'.t 2 = .lp 1 0 := by rw [hf']; show (f.t 2).drop _ = _; rw [t2]; rfl
      have u8 : f'.t 8 = .lp 13 0 := by rw [hf']; show (f.t 8).drop _ = _; rw [t8]; rfl
      have u9 : f'.t 9 = .ls 14 1 0 n n := by rw [hf']; show (f.t 9).drop _ = _; rw [t9]; rfl
      have u10 : f'.t 10 = .lp 19 0 := by rw [hf']; show (f.t 10).drop _ = _; rw [t10]; rfl
      have u57 : f'.t 57 = prs x.ands := by rw [hf']; show (f.t 57).drop _ = _; rw [t57]; rfl
      have u58 : f'.t 58 = vi x.ands.length := by rw [hf']; show (f.t 58).drop _ = _; rw [t58]; rfl
      have u59 : f'.t 59 = vi i := by rw [hf']; show (f.t 59).drop _ = _; rw [t59]; rfl
      have ud : f'.d = [] := by rw [hf']; exact hd
      rw [← hf']
      clear hf' t2 t8 t9 t10 t57 t58 t59 hd
      refine za (vm ?_)
      simp only [wq.down, Nat.reduceLT, u58, u59]
      refine za (zS (b := decide ((i : Int) < x.ands.length)) (by simp only [wq.down, ↓reduceIte]) (by simp only [wq.down, ↓reduceIte]) (fun hlt => ?_) (fun hlt => ?_))
      ·simp only [decide_eq_true_eq, Int.ofNat_lt] at hlt
       refine vm ?_
       simp only [wq.down]
       have hgp := zcS hlt V.any
       have hfst := zct x (by omega) (by omega) (by omega)
       have wn : IntKind.i64.wrap (x.first + (i : Int)) = x.first + i := zad (by omega) (by omega)
       have hvn : (x.first + (i : Int)).toNat < L.length := by rw [hLl]; omega
       have hgd : (L.map V.bool).getD ((x.first + (i : Int)).toNat * 1) V.any = V.bool (use i) := by
        rw [hu, Nat.mul_one, List.getD_eq_getElem?_getD, List.getElem?_map, List.getElem?_eq_getElem hvn]
        show V.bool _ = V.bool (L.getD _ false)
        rw [zw hvn]
       have x1 : 0 ≤ x.first + (i : Int) := by omega
       have x2 : x.first + (i : Int) < n := by omega
       have x3 : (x.first + (i : Int)).toNat * 1 + 1 ≤ L.length := by omega
       obtain ⟨o1, o2, o3, o4⟩ := zal j5 hlt
       have hCb : ∀ x ∈ C, 0 ≤ x ∧ x ≤ 1000000 := fun x hx => by have := q3 x hx; omega
       have hAi : A.length ≤ i := q1
       unfold Gr.v at hfst
       refine za (zy ?_)
       refine za (vm ?_)
       simp only [wq.down, seval, u57, u59, hgp]
       refine ⟨⟨by omega, by omega⟩, ?_⟩
       refine za (vm ?_)
       simp only [wq.down, Nat.reduceLT]
       refine za ?_
       refine za (vm ?_)
       simp only [wq.down, seval, u8, u9]
       refine zb.ev hfst (by simp only [V.dats, V.dat, Bool.and_self]) ?_
       simp only [wq.down, ↓reduceIte, Nat.reduceEqDiff, Nat.reduceLT, wn, x1, x2, x3, hgd]
       obtain ⟨w1, hw1⟩ : ∃ w1, w1 = zK C x.ands[i].1 := ⟨_, rfl⟩
       obtain ⟨w2, hw2⟩ : ∃ w2, w2 = zK C x.ands[i].2 := ⟨_, rfl⟩
       have b1 := zaM (a := x.ands[i].1) (k := x.first + A.length) (by omega) q3
       have b2 := zaM (a := x.ands[i].2) (k := x.first + A.length) (by omega) q3
       rw [← hw1] at b1
       rw [← hw2] at b2
       obtain ⟨r, hr⟩ : ∃ r, r = if use i then zbq x.first A w1 w2 else (A, 0) := ⟨_, rfl⟩
       have hst2 : zG x use (i + 1) = (r.1, C ++ [r.2]) := by
        rw [hst, zw hlt, hr]
        unfold zb3
        cases use i with
        | true => rw [if_pos rfl, if_pos rfl, hw1, hw2]
        | false => rw [if_neg (by decide), if_neg (by decide)]
       refine zN (Q := fun xe f h => xe = .normal ∧ f.t 2 = .lp 1 0 ∧ f.t 8 = .lp 13 0 ∧ f.t 9 = .ls 14 1 0 n n ∧ f.t 10 = .lp 19 0 ∧ f.t 57 = prs x.ands ∧ f.t 58 = vi x.ands.length ∧ f.t 59 = vi i ∧ f.t 13 = vi r.2 ∧ f.d = [] ∧ ∃ X, h = hQ g x L r.1 C ++ X) ?_ ?_
       ·rintro xe f h ⟨rfl, t2, t8, t9, t10, t57, t58, t59, t13, hd, X, rfl⟩
        have hw := zi (show i < maxLen by omega)
        have d1 : V.drops (fun x => x == 21) (x.init.map vi) = x.init.map vi := zB _
        have d2 : V.drops (fun x => x == 21) (C.map vi) = C.map vi := zB _
        show awp _ _ _ _ _ _ _
        refine vm ?_
        simp only [wq.down, ↓reduceIte, Nat.reduceEqDiff, Nat.reduceLT, Nat.reduceAdd, Nat.reduceBEq, reduceCtorEq, Nat.reduceMul, t10, t13, hd, bo, zaT, zbJ, zbu, zdU, d1, d2]
        refine ⟨⟨rfl, by decide⟩, ⟨by omega, by omega, by omega⟩, ?_⟩
        refine vm ?_
        simp only [wq.down, seval, t59, hw]
        refine .inl ⟨m - 1, by omega, i + 1, by omega, by simp only [wq.down, seval, t2], by simp only [wq.down, seval, t8], by simp only [wq.down, seval, t9], by simp only [wq.down, seval, t10], by simp only [wq.down, seval, t57], by simp only [wq.down, seval, t58], by simp only [wq.down, ↓reduceIte], by simp only [wq.down, hd], List.map (O.drop fun x => x == 21) X, ?_⟩
        rw [hst2]
        show _ = hQ g x L r.1 (C ++ [r.2]) ++ _
        unfold hQ bo
        rw [List.length_append, List.map_append]
        rfl
       ·refine zS (b := use i) (by simp only [wq.down, ↓reduceIte]) (by simp only [wq.down, ↓reduceIte]) (fun hb => ?_) (fun hb => ?_)
        ·rw [hb, if_pos rfl] at hr
         refine zM mixed znf (fun f h => f.t 2 = .lp 1 0 ∧ f.t 8 = .lp 13 0 ∧ f.t 9 = .ls 14 1 0 n n ∧ f.t 10 = .lp 19 0 ∧ f.t 57 = prs x.ands ∧ f.t 58 = vi x.ands.length ∧ f.t 59 = vi i ∧ f.t 13 = vi r.2 ∧ f.d = [] ∧ ∃ X, h = hQ g x L r.1 C ++ X) (by decide +kernel) (by decide +kernel) ?_ (fun f h hr => ⟨rfl, hr⟩)
         simp only [wq.down, seval, znf, u10, bo]
         repeat' apply And.intro
         all_goals first
          | decide
          | skip
         all_goals
          refine zb9 (c := 21) o1 (by omega) (by omega) hCb (by rfl) (by rfl) ?_
          simp only [wq.down, seval, ← hw1]
          repeat' apply And.intro
         all_goals first
          | decide
          | skip
         all_goals
          refine zb9 (c := 21) o2 (by omega) (by omega) hCb (by rfl) (by rfl) ?_
          simp only [wq.down, seval, ← hw2]
          repeat' apply And.intro
         all_goals
          refine zij (b := 19) (a := 20) (J := 16) (m := 18) (c := 21) (lc := C.length) (ini := x.init) (nx := x.next) (n1 := x.ins) (f0 := x.first) (A := A) xf j0 (by omega) (by omega) (by omega) (by omega) b1.1 (by omega) b2.1 (by omega) (by rfl) (by rfl) (by rfl) (by rfl) zr7 (by decide) (by decide) (by decide) (fun X => ?_)
          rw [← hr]
          simp only [wq.down, seval, zX, u2, u8, u9, u10, u57, u58, u59, ud]
          exact ⟨_, rfl⟩
        ·rw [hb, if_neg (by decide)] at hr
         subst hr
         refine vm ?_
         simp only [wq.down, seval, u2, u8, u9, u10, u57, u58, u59, ud]
         exact ⟨_, rfl⟩
      ·simp only [decide_eq_false_iff_not, Int.ofNat_lt] at hlt
       have hi : i = x.ands.length := by omega
       subst hi
       refine vm ?_
       simp only [wq.down, seval, u2, u8, u10, ud]
       rw [hs1, hAC]
       exact ⟨[], (List.append_nil _).symm⟩
 ·refine za (vm ?_)
  simp only [wq.down, seval]
  refine zy ?_
  refine zp (fun m f h => ∃ i, m + i = g.ands.length ∧ f.t 1 = .lp 0 0 ∧ f.t 2 = .lp 1 0 ∧ f.t 5 = .lp 6 0 ∧ f.t 23 = prs g.ands ∧ f.t 24 = vi g.ands.length ∧ f.t 25 = vi i ∧ f.d = [] ∧ InN g (zG g (fun _ => true) i) h) g.ands.length ⟨0, by omega, by simp only [wq.down, seval], by simp only [wq.down, seval], by simp only [wq.down, seval], by simp only [wq.down, seval], by simp only [wq.down, seval], by simp only [wq.down, ↓reduceIte]; rfl, by simp only [wq.down], [], ?_⟩ ?_
  ·rw [List.append_nil]
   show _ = hN g [] (zaJ g.first.toNat)
   unfold hN bo
   rw [zaq]
   rfl
  ·rintro m f h ⟨i, hm, t1, t2, t5, t23, t24, t25, hd, X, rfl⟩
   obtain ⟨q1, q2, q3⟩ := zbf (g := g) i0 (fun _ => true) i
   obtain ⟨A, C, hAC⟩ : ∃ A C, zG g (fun _ => true) i = (A, C) := ⟨_, _, rfl⟩
   have hst : zG g (fun _ => true) (i + 1) = zb3 g.first true (zG g (fun _ => true) i) (g.ands.getD i (0, 0)) := rfl
   rw [hAC] at q1 q2 q3 hst ⊢
   dsimp only at q1 q2 q3 ⊢
   refine zcN (by rw [hd]; simp) ?_
   rw [zfH.from_]
   obtain ⟨f', hf'⟩ : ∃ f', f' = f.drop (Abs.zf4 (hN g A C).length) := ⟨_, rfl⟩
   have u1 : f'.t 1 = .lp 0 0 := by rw [hf']; show (f.t 1).drop _ = _; rw [t1]; rfl
   have u2 : f'.t 2 = .lp 1 0 := by rw [hf']; show (f.t 2).drop _ = _; rw [t2]; rfl
   have u5 : f'.t 5 = .lp 6 0 := by rw [hf']; show (f.t 5).drop _ = _; rw [t5]; rfl
   have u23 : f'.t 23 = prs g.ands := by rw [hf']; show (f.t 23).drop _ = _; rw [t23]; rfl
   have u24 : f'.t 24 = vi g.ands.length := by rw [hf']; show (f.t 24).drop _ = _; rw [t24]; rfl
   have u25 : f'.t 25 = vi i := by rw [hf']; show (f.t 25).drop _ = _; rw [t25]; rfl
   have ud : f'.d = [] := by rw [hf']; exact hd
   rw [← hf']
   clear hf' t1 t2 t5 t23 t24 t25 hd
   refine za (vm ?_)
   simp only [wq.down, Nat.reduceLT, u24, u25]
   refine za (zS (b := decide ((i : Int) < g.ands.length)) (by simp only [wq.down, ↓reduceIte]) (by simp only [wq.down, ↓reduceIte]) (fun hlt => ?_) (fun hlt => ?_))
   ·simp only [decide_eq_true_eq, Int.ofNat_lt] at hlt
    refine vm ?_
    simp only [wq.down]
    have hgp := zcS hlt V.any
    refine za (zy ?_)
    refine za (vm ?_)
    simp only [wq.down, seval, u23, u25, hgp]
    refine ⟨⟨by omega, by omega⟩, ?_⟩
    refine zN (Q := fun xe f h => xe = .normal ∧ f.t 1 = .lp 0 0 ∧ f.t 2 = .lp 1 0 ∧ f.t 5 = .lp 6 0 ∧ f.t 23 = prs g.ands ∧ f.t 24 = vi g.ands.length ∧ f.t 25 = vi i ∧ f.d = [] ∧ InN g (zG g (fun _ => true) (i + 1)) h) ?_ ?_
    ·rintro xe f h ⟨rfl, t1, t2, t5, t23, t24, t25, hd, hin⟩
     have hw := zi (show i < maxLen by omega)
     refine vm ?_
     simp only [wq.down, seval, t25, hw]
     exact .inl ⟨m - 1, by omega, i + 1, by omega, by simp only [wq.down, seval, t1], by simp only [wq.down, seval, t2], by simp only [wq.down, seval, t5], by simp only [wq.down, seval, t23], by simp only [wq.down, seval, t24], by simp only [wq.down, ↓reduceIte], by simp only [wq.down, hd], hin⟩
    ·obtain ⟨o1, o2, o3, o4⟩ := zal i5 hlt
     have hCb : ∀ x ∈ C, 0 ≤ x ∧ x ≤ 1000000 := fun x hx => by have := q3 x hx; omega
     have hAi : A.length ≤ i := q1
     obtain ⟨v1, hv1⟩ : ∃ v1, v1 = zK C g.ands[i].1 := ⟨_, rfl⟩
     obtain ⟨v2, hv2⟩ : ∃ v2, v2 = zK C g.ands[i].2 := ⟨_, rfl⟩
     have b1 := zaM (a := g.ands[i].1) (k := g.first + A.length) (by omega) q3
     have b2 := zaM (a := g.ands[i].2) (k := g.first + A.length) (by omega) q3
     rw [← hv1] at b1
     rw [← hv2] at b2
     obtain ⟨r, hr⟩ : ∃ r, r = zbq g.first A v1 v2 := ⟨_, rfl⟩
     have hst2 : zG g (fun _ => true) (i + 1) = (r.1, C ++ [r.2]) := by
      rw [hst, zw hlt]
      unfold zb3
      rw [if_pos rfl, ← hv1, ← hv2, ← hr]
     rw [hst2]
     have d1 : V.drops (fun x => x == 8) (g.init.map vi) = g.init.map vi := zB _
     have d2 : V.drops (fun x => x == 8) (C.map vi) = C.map vi := zB _
     refine zM mixed zpD (fun f h => f.t 1 = .lp 0 0 ∧ f.t 2 = .lp 1 0 ∧ f.t 5 = .lp 6 0 ∧ f.t 23 = prs g.ands ∧ f.t 24 = vi g.ands.length ∧ f.t 25 = vi i ∧ f.d = [] ∧ InN g (r.1, C ++ [r.2]) h) (by decide +kernel) (by decide +kernel) ?_ (fun f h hr => ⟨rfl, hr⟩)
     simp only [wq.down, seval, zpD, u5, bo]
     repeat' apply And.intro
     all_goals first
      | decide
      | skip
     all_goals
      refine zb9 (c := 8) o1 (by omega) (by omega) hCb (by rfl) (by rfl) ?_
      simp only [wq.down, seval, ← hv1]
      repeat' apply And.intro
     all_goals first
      | decide
      | skip
     all_goals
      refine zb9 (c := 8) o2 (by omega) (by omega) hCb (by rfl) (by rfl) ?_
      simp only [wq.down, ↓reduceIte, Nat.reduceEqDiff, Nat.reduceLT, Nat.reduceLeDiff, Nat.reduceAdd, Nat.reduceSub, Int.reduceToNat, Nat.reduceDiv, Int.reduceLT, Int.reduceLE, Int.reduceNeg, Int.reduceBEq, Int.reduceBNe, Int.reduceAdd, Int.reduceSub, Nat.reduceBEq, reduceCtorEq, Nat.reduceMul, zg, Tryz.results40, zX, u1, u2, u5, u23, u24, u25, ud, ← hv2]
      repeat' apply And.intro
     all_goals
      refine zij (b := 6) (a := 7) (J := 3) (m := 5) (c := 8) (lc := C.length) (ini := g.init) (nx := g.next) (n1 := g.ins) (f0 := g.first) (A := A) wf i0 (by omega) (by omega) (by omega) (by omega) b1.1 (by omega) b2.1 (by omega) (by rfl) (by rfl) (by rfl) (by rfl) zr6 (by decide) (by decide) (by decide) (fun X => ?_)
      rw [← hr]
      simp only [wq.down, ↓reduceIte, Nat.reduceEqDiff, Nat.reduceLT, Nat.reduceLeDiff, Nat.reduceAdd, Nat.reduceSub, Int.reduceToNat, Nat.reduceDiv, Int.reduceLT, Int.reduceLE, Int.reduceNeg, Int.reduceBEq, Int.reduceBNe, Int.reduceAdd, Int.reduceSub, Nat.reduceBEq, reduceCtorEq, Nat.reduceMul, zg, Tryz.results40, zX, u1, u2, u5, u23, u24, u25, ud, zaT, zbJ, zbu, d1, d2]
      refine ⟨⟨rfl, by decide⟩, ⟨by omega, by omega, by omega⟩, .cells [vi g.ands[i].1, vi g.ands[i].2] :: List.map (O.drop fun x => x == 8) X, ?_⟩
      show _ = hN g r.1 (C ++ [r.2]) ++ _
      unfold hN bo
      rw [List.length_append, List.map_append]
      rfl
   ·simp only [decide_eq_false_iff_not, Int.ofNat_lt] at hlt
    have hi : i = g.ands.length := by omega
    subst hi
    refine vm ?_
    simp only [wq.down, seval, u1, u2, u5, ud]
    rw [hs1, hAC]
    exact ⟨[], (List.append_nil _).symm⟩
def Mo.norm (m : Mo) : Mo := ⟨zas m.g, m.ins, m.lat, m.out⟩
def Mo.nil : Mo := ⟨⟨0, [], [], [], []⟩, [], [], []⟩
def zin (m : Mo) : Mo × Int := if m.chk = 0 then (m.norm, 0) else (.nil, m.chk)
set_option maxHeartbeats 8000000 in
theorem zlm (m : Mo) (hs : m.g.Sm) : Ev TE 25 [m.v] (.tup [(zin m).1.v, vi (zin m).2]) := by
 have hck := zh3 m hs
 unfold zin
 by_cases hc : m.chk = 0
 ·rw [if_pos hc]
  have hn := zim (zaX hc).1
  rw [hc] at hck
  unfold Gr.v at hn
  unfold Mo.norm Mo.v
  unfold Mo.v at hck
  refine zh Tryz.func25 rfl (by simp [nts]) (vm ?_)
  simp only [wq.down, seval, Tryz.results25]
  refine zb.ev hck (by simp only [V.dats, V.dat, Bool.and_self]) ?_
  simp only [wq.down, seval]
  refine zb.ev hn (by simp only [V.dats, V.dat, Bool.and_self]) ?_
  simp only [wq.down, seval]
  exact zn.dat (by simp only [V.dats, V.dat, Bool.and_self])
 ·rw [if_neg hc]
  unfold Mo.v at hck ⊢
  refine zh Tryz.func25 rfl (by simp [nts]) (vm ?_)
  simp only [wq.down, seval, Tryz.results25]
  refine zb.ev hck (by simp only [V.dats, V.dat, Bool.and_self]) ?_
  simp only [wq.down, seval, show (m.chk != 0) = true by simpa using hc]
  show zn TE _ _ (V.tup [.agg [vi 0, zo [], zo [], prs [], zo [], zT [], zT [], zT []], vi m.chk])
  exact zn.tup (zj.cons (zn.agg (zj.cons (zn.dat rfl) (zj.cons zn.nils (zj.cons zn.nils (zj.cons zn.nils (zj.cons zn.nils (zj.cons zn.nils (zj.cons zn.nils (zj.cons zn.nils zj.nil))))))))) (zj.dat rfl))
open Go.RowKit
theorem zng : zjQ P 66 [.i64, .i64] := by
 refine ⟨by kernel_rfl, fun w xs ys hx hy => ?_⟩
 match xs, hx with
 | [a, b], _ =>
 match ys, hy with
 | [a', b'], _ =>
 have hs : (sizeOf 3).run P w = .ok 1 w := by
  have hi : ∃ i, P.info? 3 = some i := info_of_underlying Tryz.underlying3
  obtain ⟨i, hi⟩ := hi
  rw [run_sizeOf w hi]
  have : P.cellsOf 3 = 1 := by kernel_rfl
  rw [this]
 show (Op.equalIn 10000 66 (.agg #[.int .i64 a, .int .i64 b]) (.agg #[.int .i64 a', .int .i64 b'])).run P w = .ok ([a, b] == [a', b']) w
 rw [zgc Tryz.underlying66 Tryz.underlying3 9998 a b a' b' hs]
 congr 1
 rw [Bool.eq_iff_iff]
 simp
def zsC (g : Gr) (i : Nat) : Bool :=
 let p := g.ands.getD i (0, 0)
 decide (p.1 ≤ p.2) || (decide (p.2 ≤ 1) || ((p.1 / 2 == p.2 / 2) || (!((zer g).getD (g.first + (i : Int)).toNat false) || (g.ands.take i).any (· == p))))
def zfJ (g : Gr) : Bool := !((List.range g.ands.length).any (zsC g))
def zf8 (A : List Pr) : Prop := (∀ p ∈ A, p.2 < p.1 ∧ 2 ≤ p.2 ∧ p.1 / 2 ≠ p.2 / 2) ∧ A.Nodup
theorem znh {f0 : Int} {A : List Pr} {p q : Int} (h1 : q < p) (h2 : 2 ≤ q) (h3 : p / 2 ≠ q / 2) (h4 : (p, q) ∉ A) : zbq f0 A p q = (A ++ [(p, q)], 2 * (f0 + (A.length : Int))) := by
 have m1 : max p q = p := by omega
 have m2 : min p q = q := by omega
 have hx : zgs p ≠ q := by unfold zgs; split <;> omega
 unfold zbq
 rw [m1, m2, if_neg (fun h => h.elim (fun h => by omega) hx), if_neg (by omega)]
 have : A.findIdx? (· == (p, q)) = none := by
  rw [List.findIdx?_eq_none_iff]
  intro x hx
  simp only [beq_eq_false_iff_ne, ne_eq]
  rintro rfl
  exact h4 hx
 rw [this]
theorem zni {f0 : Int} {A : List Pr} {p q : Int} (hp : 0 ≤ p) (hq : 0 ≤ q) (h : zf8 A) : zf8 (zbq f0 A p q).1 := by
 unfold zbq
 split
 ·exact h
 ·rename_i n1
  split
  ·exact h
  ·rename_i n2
   split
   ·exact h
   ·rename_i hf
    rw [List.findIdx?_eq_none_iff] at hf
    obtain ⟨P, hP⟩ : ∃ P, P = max p q := ⟨_, rfl⟩
    obtain ⟨Q, hQ⟩ : ∃ Q, Q = min p q := ⟨_, rfl⟩
    have hb : 0 ≤ Q ∧ Q ≤ P := by omega
    rw [← hP, ← hQ] at n1 n2 hf ⊢
    have k1 : Q ≠ 0 := fun e => n1 (.inl e)
    have k2 : zgs P ≠ Q := fun e => n1 (.inr e)
    have k3 : Q ≠ 1 := fun e => n2 (.inl e)
    have k4 : P ≠ Q := fun e => n2 (.inr e)
    have k5 : P / 2 ≠ Q / 2 := by
     intro e
     apply k2
     unfold zgs
     split <;> omega
    refine ⟨fun x hx => ?_, ?_⟩
    ·simp only [List.mem_append, List.mem_singleton] at hx
     rcases hx with hx | rfl
     ·exact h.1 x hx
     ·exact ⟨by show Q < P; omega, by show 2 ≤ Q; omega, k5⟩
    ·rw [List.nodup_append]
     refine ⟨h.2, by simp, fun a ha b hb e => ?_⟩
     simp only [List.mem_singleton] at hb
     subst hb
     have := hf a ha
     rw [e] at this
     simp at this
theorem zca {g : Gr} (h : 0 ≤ g.ins) (use : Nat → Bool) : ∀ i, zf8 (zG g use i).1
 | 0 => ⟨fun p hp => by simp [zG] at hp, by simp [zG]⟩
 | i + 1 => by
  have hf := zO h
  obtain ⟨h1, h2, h3⟩ := zbf h use i
  have ih := zca h use i
  show zf8 (zb3 g.first (use i) (zG g use i) (g.ands.getD i (0, 0))).1
  generalize zG g use i = s at h1 h2 h3 ih ⊢
  generalize g.ands.getD i (0, 0) = p
  cases use i with
  | true => exact zni (zaM (a := p.1) (k := g.first + s.1.length) (by omega) h3).1 (zaM (a := p.2) (k := g.first + s.1.length) (by omega) h3).1 ih
  | false => exact ih
def zc3 (use : Nat → Bool) (k : Nat) : Nat := ((List.range k).filter use).length
theorem zdV {use : Nat → Bool} {k : Nat} : zc3 use (k + 1) = zc3 use k + if use k then 1 else 0 := by
 unfold zc3
 rw [List.range_succ, List.filter_append, List.length_append]
 cases h : use k <;> simp [h]
theorem zio {use : Nat → Bool} {j : Nat} : ∀ {k : Nat}, j ≤ k → zc3 use j ≤ zc3 use k
 | 0, h => by rw [show j = 0 by omega]; exact Nat.le_refl _
 | k + 1, h => by
  by_cases hj : j = k + 1
  ·rw [hj]; exact Nat.le_refl _
  ·have := zio (use := use) (j := j) (k := k) (by omega)
   rw [zdV]
   omega
theorem zhf {use : Nat → Bool} {j k : Nat} (h : j < k) (hu : use j = true) : zc3 use j < zc3 use k := by
 have := zio (use := use) (j := j + 1) (k := k) (by omega)
 rw [zdV, hu] at this
 simp at this
 omega
def zdc (f : Nat) (use : Nat → Bool) (v : Nat) : Nat := if v < f then v else f + zc3 use (v - f)
def znj (f : Nat) (use : Nat → Bool) (v : Nat) : Prop := v < f ∨ use (v - f) = true
theorem zjx {f : Nat} {use : Nat → Bool} {v w : Nat} (h : v < w) (hl : znj f use v) : zdc f use v < zdc f use w := by
 unfold zdc
 rcases hl with hl | hl
 ·rw [if_pos hl]
  split <;> omega
 ·by_cases hv : v < f
  ·rw [if_pos hv]
   split <;> omega
  ·rw [if_neg hv, if_neg (by omega)]
   have := zhf (use := use) (j := v - f) (k := w - f) (by omega) hl
   omega
theorem zj9 {f : Nat} {use : Nat → Bool} {v w : Nat} (hv : znj f use v) (hw : znj f use w) (h : zdc f use v = zdc f use w) : v = w := by
 rcases Nat.lt_trichotomy v w with h1 | h1 | h1
 ·have := zjx h1 hv; omega
 ·exact h1
 ·have := zjx h1 hw; omega
theorem zoW {f : Nat} {use : Nat → Bool} {v : Nat} (hf : 0 < f) (h : 0 < v) : 0 < zdc f use v := by
 unfold zdc
 split <;> omega
def reA (f : Nat) (use : Nat → Bool) (l : Int) : Int := 2 * (zdc f use (l / 2).toNat : Int) + l % 2
def zdW (g : Gr) (use : Nat → Bool) (i : Nat) : List Pr := ((List.range i).filter use).map fun j => (reA g.first.toNat use (g.ands.getD j (0, 0)).1, reA g.first.toNat use (g.ands.getD j (0, 0)).2)
theorem zdX {g : Gr} {use : Nat → Bool} {i : Nat} : (zdW g use i).length = zc3 use i := by unfold zdW zc3; rw [List.length_map]
theorem zbV {f : Nat} {use : Nat → Bool} {C : Cl} {l : Int} (h : C.getD (l / 2).toNat 0 = 2 * (zdc f use (l / 2).toNat : Int)) : zK C l = reA f use l := by
 unfold zK reA zgs
 rw [h]
 split
 ·rw [if_pos (by omega)]; omega
 ·omega
def zqG (g : Gr) (use : Nat → Bool) : Prop := ∀ i (hi : i < g.ands.length), use i = true → znj g.first.toNat use (g.ands[i].1 / 2).toNat ∧ znj g.first.toNat use (g.ands[i].2 / 2).toNat
theorem zc4 {g : Gr} (hg : g.chk = 0) (hga : zf8 g.ands) {use : Nat → Bool} (hu : zqG g use) : ∀ i, i ≤ g.ands.length →
 (zG g use i).1 = zdW g use i ∧ ∀ v, v < g.first.toNat + i → znj g.first.toNat use v → (zG g use i).2.getD v 0 = 2 * (zdc g.first.toNat use v : Int) := by
 obtain ⟨_, i0, i1, i2, i3, i4, i5⟩ := zI hg
 have hf := zO i0
 intro i
 induction i with
 | zero =>
  intro _
  refine ⟨rfl, fun v hv hl => ?_⟩
  have hvl : v < (zaJ g.first.toNat).length := by rw [zaq]; omega
  show (zaJ g.first.toNat).getD v 0 = _
  rw [zw hvl]
  unfold zdc
  rw [if_pos (by omega)]
  simp [zaJ]
 | succ i ih =>
  intro hi
  have hlt : i < g.ands.length := by omega
  obtain ⟨a1, a2⟩ := ih (by omega)
  obtain ⟨h1, h2, h3⟩ := zbf i0 use i
  obtain ⟨o1, o2, o3, o4⟩ := zal i5 hlt
  have hst : zG g use (i + 1) = zb3 g.first (use i) (zG g use i) (g.ands.getD i (0, 0)) := rfl
  obtain ⟨A, C, hAC⟩ : ∃ A C, zG g use i = (A, C) := ⟨_, _, rfl⟩
  rw [hst, zw hlt]
  rw [hAC] at a1 a2 h1 h2 h3 ⊢
  dsimp only at a1 a2 h1 h2 h3
  have hn : zdc g.first.toNat use (g.first.toNat + i) = g.first.toNat + zc3 use i := by
   unfold zdc
   rw [if_neg (by omega), Nat.add_sub_cancel_left]
  have hC : ∀ w, ∀ v, v < g.first.toNat + (i + 1) → znj g.first.toNat use v → (v = g.first.toNat + i → w = 2 * (zdc g.first.toNat use v : Int)) → (C ++ [w]).getD v 0 = 2 * (zdc g.first.toNat use v : Int) := by
   intro w v hv hl hw
   by_cases hvi : v < g.first.toNat + i
   ·have := a2 v hvi hl
    rw [List.getD_eq_getElem?_getD, List.getElem?_append_left (by omega), ← List.getD_eq_getElem?_getD]
    exact this
   ·have hvi : v = g.first.toNat + i := by omega
    rw [List.getD_eq_getElem?_getD, List.getElem?_append_right (by omega), show v - C.length = 0 by omega]
    exact hw hvi
  cases hui : use i with
  | false =>
   unfold zb3
   rw [if_neg (by decide)]
   refine ⟨?_, fun v hv hl => hC 0 v hv hl fun e => ?_⟩
   ·rw [a1]; unfold zdW; rw [List.range_succ, List.filter_append]; simp [hui]
   ·exfalso
    rcases hl with hl | hl
    ·omega
    ·rw [e, Nat.add_sub_cancel_left, hui] at hl; cases hl
  | true =>
   obtain ⟨l1, l2⟩ := hu i hlt hui
   obtain ⟨g1, g2, g3⟩ := hga.1 _ (List.getElem_mem hlt)
   have c1 : zK C g.ands[i].1 = reA g.first.toNat use g.ands[i].1 := zbV (a2 _ (by omega) l1)
   have c2 : zK C g.ands[i].2 = reA g.first.toNat use g.ands[i].2 := zbV (a2 _ (by omega) l2)
   have n1 := zjx (f := g.first.toNat) (use := use) (v := (g.ands[i].2 / 2).toNat) (w := (g.ands[i].1 / 2).toNat) (by omega) l2
   have n2 := zoW (f := g.first.toNat) (use := use) (v := (g.ands[i].2 / 2).toNat) (by omega) (by omega)
   have hmk : zbq g.first A (zK C g.ands[i].1) (zK C g.ands[i].2) = (A ++ [(reA g.first.toNat use g.ands[i].1, reA g.first.toNat use g.ands[i].2)], 2 * (g.first + (A.length : Int))) := by
    rw [c1, c2]
    refine znh ?_ ?_ ?_ ?_
    ·unfold reA; omega
    ·unfold reA; omega
    ·unfold reA; omega
    ·rw [a1]
     intro hm
     unfold zdW at hm
     simp only [List.mem_map, List.mem_filter, List.mem_range] at hm
     obtain ⟨j, ⟨hj, huj⟩, he⟩ := hm
     have hjl : j < g.ands.length := by omega
     rw [zw hjl] at he
     obtain ⟨m1, m2⟩ := hu j hjl huj
     obtain ⟨p1, p2, p3, p4⟩ := zal i5 hjl
     have e1 := congrArg Prod.fst he
     have e2 := congrArg Prod.snd he
     dsimp only at e1 e2
     unfold reA at e1 e2
     have x1 := zj9 m1 l1 (by omega)
     have x2 := zj9 m2 l2 (by omega)
     have : g.ands[j] = g.ands[i] := Prod.ext (by omega) (by omega)
     have := (List.getElem_inj hga.2).1 this
     omega
   unfold zb3
   rw [if_pos rfl, hmk]
   refine ⟨?_, fun v hv hl => hC _ v hv hl fun e => ?_⟩
   ·show A ++ _ = _
    rw [a1]; unfold zdW; rw [List.range_succ, List.filter_append]; simp [hui, List.getElem?_eq_getElem hlt]
   ·show 2 * (g.first + (A.length : Int)) = _
    rw [e, hn, a1, zdX]
    omega
theorem zbr {v : List Bool} {l : Int} {w : Nat} : (zdb v l).getD w false = ((decide ((l / 2).toNat = w) && decide (w < v.length)) || v.getD w false) := by
 unfold zdb
 rw [List.getD_eq_getElem?_getD, List.getElem?_set]
 by_cases h : (l / 2).toNat = w
 ·rw [if_pos h]
  by_cases hw : w < v.length
  ·rw [if_pos (by omega)]; simp [h, hw]
  ·rw [if_neg (by omega)]; simp [h, hw, List.getD_eq_getElem?_getD, List.getElem?_eq_none (show v.length ≤ w by omega)]
 ·rw [if_neg h]; simp [h, List.getD_eq_getElem?_getD]
theorem zhg {v : List Bool} {l : Int} {w : Nat} (h : v.getD w false = true) : (zdb v l).getD w false = true := by rw [zbr, h, Bool.or_true]
theorem zdY {g : Gr} {v : List Bool} {k : Nat} : zdj g v (k + 1) = if (zdj g v k).getD (g.first + ((g.ands.length - 1 - k : Nat) : Int)).toNat false then zdb (zdb (zdj g v k) (g.ands.getD (g.ands.length - 1 - k) (0, 0)).1) (g.ands.getD (g.ands.length - 1 - k) (0, 0)).2 else zdj g v k := rfl
theorem zfK {g : Gr} {v : List Bool} {w k : Nat} : ∀ {k' : Nat}, k ≤ k' → (zdj g v k).getD w false = true → (zdj g v k').getD w false = true
 | 0, h, hk => by rw [show k = 0 by omega] at hk; exact hk
 | k' + 1, h, hk => by
  by_cases he : k = k' + 1
  ·rw [he] at hk; exact hk
  ·have ih := zfK (k' := k') (by omega) hk
   rw [zdY]
   split
   ·exact zhg (zhg ih)
   ·exact ih
theorem ziq {g : Gr} (hg : g.chk = 0) {v : List Bool} {w k : Nat} (hw : g.first + ((g.ands.length - 1 - k : Nat) : Int) ≤ w) : ∀ {k' : Nat}, k ≤ k' → k' ≤ g.ands.length → (zdj g v k').getD w false = (zdj g v k).getD w false
 | 0, h, _ => by rw [show k = 0 by omega]
 | k' + 1, h, hl => by
  by_cases he : k = k' + 1
  ·rw [he]
  ·obtain ⟨_, i0, i1, i2, i3, i4, i5⟩ := zI hg
   have ih := ziq hg (v := v) hw (k' := k') (by omega) (by omega)
   have hp : g.ands.length - 1 - k' < g.ands.length := by omega
   obtain ⟨o1, o2, o3, o4⟩ := zal i5 hp
   have hf := zO i0
   rw [zdY, zw hp]
   split
   ·rw [zbr, zbr, ih]
    have d1 : ((g.ands[g.ands.length - 1 - k'].1 / 2).toNat = w) = False := by simp; omega
    have d2 : ((g.ands[g.ands.length - 1 - k'].2 / 2).toNat = w) = False := by simp; omega
    simp [d1, d2]
   ·exact ih
theorem zgu {g : Gr} (hg : g.chk = 0) {i : Nat} (hi : i < g.ands.length) (h : (zer g).getD (g.first + (i : Int)).toNat false = true) :
 (zer g).getD (g.ands[i].1 / 2).toNat false = true ∧ (zer g).getD (g.ands[i].2 / 2).toNat false = true := by
 obtain ⟨_, i0, i1, i2, i3, i4, i5⟩ := zI hg
 have hf := zO i0
 obtain ⟨o1, o2, o3, o4⟩ := zal i5 hi
 unfold zer at h ⊢
 obtain ⟨v, hv⟩ : ∃ v, v = zdS g (List.replicate g.vars false) (g.next ++ g.outs).length := ⟨_, rfl⟩
 have hvl : v.length = g.vars := by rw [hv, zdT, List.length_replicate]
 rw [← hv] at h ⊢
 have hk : g.ands.length - 1 - (g.ands.length - 1 - i) = i := by omega
 have hkk := ziq hg (v := v) (w := (g.first + (i : Int)).toNat) (k := g.ands.length - 1 - i) (by rw [hk]; omega) (k' := g.ands.length) (by omega) (Nat.le_refl _)
 rw [hkk] at h
 have hs := zdY (g := g) (v := v) (k := g.ands.length - 1 - i)
 rw [hk, if_pos h, zw hi] at hs
 have hvv : (g.vars : Int) = g.first + g.ands.length := by
  have : g.first = 1 + g.ins + g.next.length := rfl
  unfold Gr.vars; omega
 have hl : ∀ k, (zdj g v k).length = g.vars := fun k => by rw [zc2, hvl]
 have m1 : (zdb (zdb (zdj g v (g.ands.length - 1 - i)) g.ands[i].1) g.ands[i].2).getD (g.ands[i].1 / 2).toNat false = true :=
  zhg (by rw [zbr, hl]; simp; left; omega)
 have m2 : (zdb (zdb (zdj g v (g.ands.length - 1 - i)) g.ands[i].1) g.ands[i].2).getD (g.ands[i].2 / 2).toNat false = true := by
  rw [zbr, zcv, hl]; simp; left; omega
 rw [← hs] at m1 m2
 exact ⟨zfK (by omega) m1, zfK (by omega) m2⟩
theorem zdl {w : Nat} : ∀ {l : List Int} {v : List Bool}, (l.foldl zdb v).getD w false = true → v.getD w false = true ∨ ∃ a ∈ l, (a / 2).toNat = w
 | [], v, h => .inl h
 | a :: l, v, h => by
  rcases zdl (l := l) h with h | ⟨b, hb, e⟩
  ·rw [zbr] at h
   simp only [Bool.or_eq_true, Bool.and_eq_true, decide_eq_true_eq] at h
   rcases h with h | h
   ·exact .inr ⟨a, List.mem_cons_self, h.1⟩
   ·exact .inl h
  ·exact .inr ⟨b, List.mem_cons_of_mem _ hb, e⟩
theorem zdZ {w : Nat} : ∀ {l : List Int} {v : List Bool}, v.getD w false = true → (l.foldl zdb v).getD w false = true
 | [], v, h => h
 | a :: l, v, h => zdZ (l := l) (zhg h)
theorem zd0 {w : Nat} : ∀ {l : List Int} {v : List Bool} {a : Int}, a ∈ l → (a / 2).toNat = w → w < v.length → (l.foldl zdb v).getD w false = true
 | b :: l, v, a, ha, hw, hl => by
  rcases List.mem_cons.1 ha with rfl | ha
  ·exact zdZ (l := l) (by rw [zbr]; simp; left; exact ⟨hw, hl⟩)
  ·exact zd0 (l := l) ha hw (by rw [zcv]; exact hl)
theorem zka {g : Gr} {v : List Bool} : zdS g v (g.next ++ g.outs).length = (g.next ++ g.outs).foldl zdb v := by
 unfold zdS
 rw [List.take_length]
theorem zoX {g : Gr} (hg : g.chk = 0) {w : Nat} (h : (zer g).getD w false = true) :
 (∃ a ∈ g.next ++ g.outs, (a / 2).toNat = w) ∨ ∃ (j : Nat) (hj : j < g.ands.length), (zer g).getD (g.first + (j : Int)).toNat false = true ∧ ((g.ands[j].1 / 2).toNat = w ∨ (g.ands[j].2 / 2).toNat = w) := by
 obtain ⟨v, hv⟩ : ∃ v, v = zdS g (List.replicate g.vars false) (g.next ++ g.outs).length := ⟨_, rfl⟩
 have hF : zer g = zdj g v g.ands.length := by rw [hv]; rfl
 rw [hF] at h ⊢
 have go : ∀ k, k ≤ g.ands.length → (zdj g v k).getD w false = true → (∃ a ∈ g.next ++ g.outs, (a / 2).toNat = w) ∨ ∃ (j : Nat) (hj : j < g.ands.length), (zdj g v g.ands.length).getD (g.first + (j : Int)).toNat false = true ∧ ((g.ands[j].1 / 2).toNat = w ∨ (g.ands[j].2 / 2).toNat = w) := by
  intro k
  induction k with
  | zero =>
   intro _ h
   have h : v.getD w false = true := h
   rw [hv, zka] at h
   rcases zdl h with h | h
   ·rw [show (List.replicate g.vars false).getD w false = false by rw [List.getD_eq_getElem?_getD, List.getElem?_replicate]; split <;> rfl] at h
    cases h
   ·exact .inl h
  | succ k ih =>
   intro hk h
   have hp : g.ands.length - 1 - k < g.ands.length := by omega
   rw [zdY] at h
   split at h
   ·rename_i hb
    rw [zw hp, zbr, zbr] at h
    simp only [Bool.or_eq_true, Bool.and_eq_true, decide_eq_true_eq] at h
    have hb2 := zfK (g := g) (v := v) (k' := g.ands.length) (by omega) hb
    rcases h with h | h | h
    ·exact .inr ⟨_, hp, hb2, .inr h.1⟩
    ·exact .inr ⟨_, hp, hb2, .inl h.1⟩
    ·exact ih (by omega) h
   ·exact ih (by omega) h
 exact go _ (Nat.le_refl _) h
theorem zir {g : Gr} {w : Nat} {a : Int} (ha : a ∈ g.next ++ g.outs) (hw : (a / 2).toNat = w) (hl : w < g.vars) : (zer g).getD w false = true := by
 unfold zer
 refine zfK (k := 0) (Nat.zero_le _) ?_
 show (zdS g _ _).getD w false = true
 rw [zka]
 exact zd0 ha hw (by rw [List.length_replicate]; exact hl)
theorem zfL {use : Nat → Bool} {j : Nat} (hu : use j = true) : ∀ {n : Nat}, j < n → ((List.range n).filter use)[zc3 use j]? = some j
 | 0, h => by omega
 | n + 1, h => by
  rw [List.range_succ, List.filter_append]
  by_cases hj : j = n
  ·subst hj
   rw [List.getElem?_append_right (show ((List.range j).filter use).length ≤ zc3 use j from Nat.le_refl _)]
   show ([j].filter use)[zc3 use j - zc3 use j]? = _
   rw [Nat.sub_self]
   simp [hu]
  ·have hlt : j < n := by omega
   rw [List.getElem?_append_left (by show zc3 use j < zc3 use n; exact zhf hlt hu)]
   exact zfL hu hlt
theorem zis {use : Nat → Bool} {r : Nat} : ∀ {n : Nat}, r < zc3 use n → ∃ i, i < n ∧ use i = true ∧ zc3 use i = r
 | 0, h => by simp [zc3] at h
 | n + 1, h => by
  by_cases hr : r < zc3 use n
  ·obtain ⟨i, h1, h2, h3⟩ := zis hr
   exact ⟨i, by omega, h2, h3⟩
  ·rw [zdV] at h
   cases hu : use n with
   | true => rw [hu] at h; simp at h; exact ⟨n, by omega, hu, by omega⟩
   | false => rw [hu] at h; simp at h; omega
theorem znk {g : Gr} {use : Nat → Bool} {j n : Nat} (hu : use j = true) (hj : j < n) : (zdW g use n)[zc3 use j]? = some (reA g.first.toNat use (g.ands.getD j (0, 0)).1, reA g.first.toNat use (g.ands.getD j (0, 0)).2) := by
 unfold zdW
 rw [List.getElem?_map, zfL hu hj]
 rfl
theorem zc5 {g : Gr} (h : 0 ≤ g.ins) : (g.vars : Int) = g.first + g.ands.length := by
 have : g.first = 1 + g.ins + g.next.length := rfl
 unfold Gr.vars; omega
def zbb (x : Gr) : Nat → Bool := fun i => (zer x).getD (x.first + (i : Int)).toNat false
theorem zes {x : Gr} (hx : x.chk = 0) : zqG x (zbb x) := by
 obtain ⟨_, i0, i1, i2, i3, i4, i5⟩ := zI hx
 have hf := zO i0
 intro i hi hu
 obtain ⟨h1, h2⟩ := zgu hx hi hu
 have key : ∀ w : Nat, (zer x).getD w false = true → znj x.first.toNat (zbb x) w := fun w hw => by
  by_cases h : w < x.first.toNat
  ·exact .inl h
  ·refine .inr ?_
   unfold zbb
   rw [show (x.first + ((w - x.first.toNat : Nat) : Int)).toNat = w by omega]
   exact hw
 exact ⟨key _ h1, key _ h2⟩
theorem znl {x : Gr} {w : Nat} (h : (zer x).getD w false = true) : w < x.vars := by
 by_cases hw : w < x.vars
 ·exact hw
 ·rw [List.getD_eq_getElem?_getD, List.getElem?_eq_none (by rw [zhe]; omega)] at h
  cases h
set_option maxHeartbeats 2000000 in
theorem zoY {x : Gr} (hx : x.chk = 0) (hga : zf8 x.ands) : ∀ (k w : Nat), w + k = x.vars → (zer x).getD w false = true →
 (zer (za6 x (zG x (zbb x) x.ands.length))).getD (zdc x.first.toNat (zbb x) w) false = true := by
 obtain ⟨_, i0, i1, i2, i3, i4, i5⟩ := zI hx
 have hf := zO i0
 have hv := zc5 i0
 have hy := zae hx (zbb x)
 obtain ⟨e1, e2⟩ := zc4 hx hga (zes hx) x.ands.length (Nat.le_refl _)
 obtain ⟨s, hs⟩ : ∃ s, s = zG x (zbb x) x.ands.length := ⟨_, rfl⟩
 rw [← hs] at e1 e2 hy ⊢
 have yf : (za6 x s).first = x.first := by simp [za6, Gr.first]
 have yl : (za6 x s).ands.length = zc3 (zbb x) x.ands.length := by show s.1.length = _; rw [e1, zdX]
 have hyv : ((za6 x s).vars : Int) = x.first + (zc3 (zbb x) x.ands.length : Nat) := by rw [zc5 (show 0 ≤ (za6 x s).ins from i0), yf, yl]
 have live : ∀ w : Nat, (zer x).getD w false = true → znj x.first.toNat (zbb x) w := fun w hw => by
  by_cases h : w < x.first.toNat
  ·exact .inl h
  ·refine .inr ?_
   unfold zbb
   rw [show (x.first + ((w - x.first.toNat : Nat) : Int)).toNat = w by omega]
   exact hw
 intro k
 induction k using Nat.strongRecOn with
 | ind k ih =>
  intro w hk hw
  have hwv := znl hw
  have hl := live w hw
  have hnum : zdc x.first.toNat (zbb x) w < (za6 x s).vars := by
   unfold zdc
   split
   ·omega
   ·rcases hl with hl | hl
    ·omega
    ·have := zhf (use := zbb x) (j := w - x.first.toNat) (k := x.ands.length) (by omega) hl
     omega
  rcases zoX hx hw with ⟨a, ha, hwa⟩ | ⟨j, hj, hjl, hop⟩
  ·have hc : zK s.2 a = reA x.first.toNat (zbb x) a := zbV (by rw [hwa]; exact e2 w (by omega) hl)
   refine zir (a := zK s.2 a) ?_ ?_ hnum
   ·show zK s.2 a ∈ x.next.map (zK s.2) ++ x.outs.map (zK s.2)
    rw [← List.map_append]
    exact List.mem_map_of_mem ha
   ·rw [hc]; unfold reA; rw [hwa]; omega
  ·obtain ⟨o1, o2, o3, o4⟩ := zal i5 hj
   have huj : zbb x j = true := hjl
   have ihj := ih (x.vars - (x.first.toNat + j)) (by rcases hop with h | h <;> omega) (x.first.toNat + j) (by omega) (by rw [show x.first.toNat + j = (x.first + (j : Int)).toNat by omega]; exact hjl)
   have hnj : zdc x.first.toNat (zbb x) (x.first.toNat + j) = x.first.toNat + zc3 (zbb x) j := by
    unfold zdc
    rw [if_neg (by omega), Nat.add_sub_cancel_left]
   rw [hnj] at ihj
   have hrj := zhf hj huj
   have hri : zc3 (zbb x) j < (za6 x s).ands.length := by rw [yl]; exact hrj
   have hgt : (za6 x s).ands[zc3 (zbb x) j] = (reA x.first.toNat (zbb x) x.ands[j].1, reA x.first.toNat (zbb x) x.ands[j].2) := by
    have := znk (g := x) huj hj
    rw [← e1, zw hj] at this
    exact (List.getElem?_eq_some_iff.1 this).2
   have hle := zgu hy hri (by rw [yf, show (x.first + ((zc3 (zbb x) j : Nat) : Int)).toNat = x.first.toNat + zc3 (zbb x) j by omega]; exact ihj)
   rw [hgt] at hle
   dsimp only at hle
   rcases hop with h | h
   ·have := hle.1
    unfold reA at this
    rw [h, show ((2 * (zdc x.first.toNat (zbb x) w : Int) + x.ands[j].1 % 2) / 2).toNat = zdc x.first.toNat (zbb x) w by omega] at this
    exact this
   ·have := hle.2
    unfold reA at this
    rw [h, show ((2 * (zdc x.first.toNat (zbb x) w : Int) + x.ands[j].2 % 2) / 2).toNat = zdc x.first.toNat (zbb x) w by omega] at this
    exact this
theorem zjy {x : Gr} (hx : x.chk = 0) (hga : zf8 x.ands) : zfJ (za6 x (zG x (zbb x) x.ands.length)) = true := by
 obtain ⟨_, i0, i1, i2, i3, i4, i5⟩ := zI hx
 have hf := zO i0
 have hv := zc5 i0
 obtain ⟨e1, e2⟩ := zc4 hx hga (zes hx) x.ands.length (Nat.le_refl _)
 have hgd := zca i0 (zbb x) x.ands.length
 have hled := zoY hx hga
 obtain ⟨s, hs⟩ : ∃ s, s = zG x (zbb x) x.ands.length := ⟨_, rfl⟩
 rw [← hs] at e1 hgd hled ⊢
 have yl : s.1.length = zc3 (zbb x) x.ands.length := by rw [e1, zdX]
 have yf : (za6 x s).first = x.first := by simp [za6, Gr.first]
 unfold zfJ
 rw [Bool.not_eq_true', List.any_eq_false]
 intro r hr
 rw [List.mem_range] at hr
 have hr : r < s.1.length := hr
 obtain ⟨a1, a2, a3⟩ := hgd.1 _ (List.getElem_mem hr)
 obtain ⟨i, hi, hui, hri⟩ := zis (show r < zc3 (zbb x) x.ands.length by rw [← yl]; exact hr)
 have hl := hled (x.vars - (x.first.toNat + i)) (x.first.toNat + i) (by omega) (by rw [show x.first.toNat + i = (x.first + (i : Int)).toNat by omega]; exact hui)
 have hn : zdc x.first.toNat (zbb x) (x.first.toNat + i) = (x.first + (r : Int)).toNat := by
  unfold zdc
  rw [if_neg (by omega), Nat.add_sub_cancel_left, hri]
  omega
 rw [hn] at hl
 unfold zsC
 rw [show (za6 x s).ands = s.1 from rfl, yf, zw hr, hl]
 have d1 : decide (s.1[r].1 ≤ s.1[r].2) = false := by simp; omega
 have d2 : decide (s.1[r].2 ≤ 1) = false := by simp; omega
 have d3 : (s.1[r].1 / 2 == s.1[r].2 / 2) = false := by simpa using a3
 have d5 : ((s.1.take r).any (· == s.1[r])) = false := by
  rw [List.any_eq_false]
  intro p hp hpe
  have hpe : p = s.1[r] := by simpa using hpe
  obtain ⟨j, hj, rfl⟩ := List.mem_iff_getElem.1 hp
  rw [List.length_take] at hj
  rw [List.getElem_take] at hpe
  have := (List.getElem_inj hgd.2).1 hpe
  omega
 dsimp only
 rw [d1, d2, d3, d5]
 decide
theorem zeF {g : Gr} (hg : g.chk = 0) : zfJ (zas g) = true :=
 zjy (zae hg _) (zca (zI hg).i0 _ _)
end Go.Proofs.YtfcpapokknfeeaaGreatDoor
