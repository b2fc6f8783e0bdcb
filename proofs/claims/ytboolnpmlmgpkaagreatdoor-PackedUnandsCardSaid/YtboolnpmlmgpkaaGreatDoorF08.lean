/- Lemmas for the statement of this claim, part F08: they hold with no conditions but those that each one names. -/
import Derived.Test.YtboolnpmlmgpkaaGreatDoorF07
set_option linter.unusedVariables false
set_option maxRecDepth 20000
set_option linter.unusedSimpArgs false
set_option linter.unnecessarySimpa false
namespace Go.Proofs.YtboolnpmlmgpkaaGreatDoor
open Go Go.Proofs Go.Abs
def zd8 (v : List Bool) (l : Int) : List Bool := v.set (l / 2).toNat true
theorem zcg {v : List Bool} {l : Int} : (zd8 v l).length = v.length := by simp [zd8]
def zjg (g : Gr) (v : List Bool) (n : Nat) : List Bool := ((g.next ++ g.outs).take n).foldl zd8 v
def zeK (g : Gr) (v : List Bool) : Nat → List Bool
 | 0 => v
 | k + 1 => let u := zeK g v k
  let p := g.ands.getD (g.ands.length - 1 - k) (0, 0)
  if u.getD (g.first + ((g.ands.length - 1 - k : Nat) : Int)).toNat false then zd8 (zd8 u p.1) p.2 else u
theorem zjV {g : Gr} {v : List Bool} {n : Nat} : (zjg g v n).length = v.length := by
 unfold zjg
 induction (g.next ++ g.outs).take n generalizing v with
 | nil => rfl
 | cons a l ih => rw [List.foldl_cons, ih, zcg]
theorem zeL {g : Gr} {v : List Bool} : ∀ {k : Nat}, (zeK g v k).length = v.length
 | 0 => rfl
 | k + 1 => by
  unfold zeK
  dsimp only
  split
  ·rw [zcg, zcg, zeL]
  ·exact zeL
structure HV (g : Gr) (k1 k2 rr n N : Nat) (P : List Bool → H → Prop) : Prop where
 gr : ∀ v X, P v X → X[k1]? = some (.cells [vi g.ins, zr g.next, zr g.init, prs g.ands, zr g.outs])
 cl : ∀ v X, P v X → X[k2]? = some (.cells [.ls rr 1 0 n n])
 rw_ : ∀ v X, P v X → X[rr]? = some (.cells (v.map V.bool))
 len : ∀ v X, P v X → X.length = N
 vlen : ∀ v X, P v X → v.length = n
def zmP : Plan := .take 3 <| .alt 0 (.one 1 <| .one 2 <| .one 4 <| .take 5 <| .one 6 <| .take 7 <| .take 9 <| .alt 8 (.one 10 <| .one 11 <| .one 12 <| .take 13 <| .take 15 <| .alt 14 (.one 16 <| .one 17 <| .one 18 <| .one 19 <| .one 20 <| .fin) (.one 16 (.one 14 <| .one 17 <| .one 18 <| .one 19 <| .one 20 <| .fin))) (.one 10 (.one 8 <| .one 11 <| .one 12 <| .take 13 <| .take 15 <| .alt 14 (.one 16 <| .one 17 <| .one 18 <| .one 19 <| .one 20 <| .fin) (.one 16 (.one 14 <| .one 17 <| .one 18 <| .one 19 <| .one 20 <| .fin))))) (.one 1 (.alt 0 (.one 2 <| .one 4 <| .take 5 <| .one 6 <| .take 7 <| .take 9 <| .alt 8 (.one 10 <| .one 11 <| .one 12 <| .take 13 <| .take 15 <| .alt 14 (.one 16 <| .one 17 <| .one 18 <| .one 19 <| .one 20 <| .fin) (.one 16 (.one 14 <| .one 17 <| .one 18 <| .one 19 <| .one 20 <| .fin))) (.one 10 (.one 8 <| .one 11 <| .one 12 <| .take 13 <| .take 15 <| .alt 14 (.one 16 <| .one 17 <| .one 18 <| .one 19 <| .one 20 <| .fin) (.one 16 (.one 14 <| .one 17 <| .one 18 <| .one 19 <| .one 20 <| .fin))))) (.one 2 (.alt 0 (.one 4 <| .take 5 <| .one 6 <| .take 7 <| .take 9 <| .alt 8 (.one 10 <| .one 11 <| .one 12 <| .take 13 <| .take 15 <| .alt 14 (.one 16 <| .one 17 <| .one 18 <| .one 19 <| .one 20 <| .fin) (.one 16 (.one 14 <| .one 17 <| .one 18 <| .one 19 <| .one 20 <| .fin))) (.one 10 (.one 8 <| .one 11 <| .one 12 <| .take 13 <| .take 15 <| .alt 14 (.one 16 <| .one 17 <| .one 18 <| .one 19 <| .one 20 <| .fin) (.one 16 (.one 14 <| .one 17 <| .one 18 <| .one 19 <| .one 20 <| .fin))))) (.one 4 (.one 0 <| .take 5 <| .one 6 <| .take 7 <| .take 9 <| .alt 8 (.one 10 <| .one 11 <| .one 12 <| .take 13 <| .take 15 <| .alt 14 (.one 16 <| .one 17 <| .one 18 <| .one 19 <| .one 20 <| .fin) (.one 16 (.one 14 <| .one 17 <| .one 18 <| .one 19 <| .one 20 <| .fin))) (.one 10 (.one 8 <| .one 11 <| .one 12 <| .take 13 <| .take 15 <| .alt 14 (.one 16 <| .one 17 <| .one 18 <| .one 19 <| .one 20 <| .fin) (.one 16 (.one 14 <| .one 17 <| .one 18 <| .one 19 <| .one 20 <| .fin))))))))))
set_option maxHeartbeats 8000000 in
theorem zc2 {g : Gr} (hg : g.chk = 0) {id k1 k2 rr n N : Nat} {P : List Bool → H → Prop} (hn : (n : Int) = g.first + g.ands.length) (hv : HV g k1 k2 rr n N P) (hid : id < N)
 (hy : ∀ (v : List Bool) (X Y : H) (lit : Int), P v X → 0 ≤ lit → lit / 2 < n → zqJ TE id [vi lit] (X ++ Y) fun j h'' p => j = none ∧ (∀ i, p i = false) ∧ ∃ X', h'' = X' ++ Y ∧ P (zd8 v lit) X')
 {v0 : List Bool} {X0 : H} (h0 : P v0 X0) : zb TE 205 [.yd id, .lp k1 0, .lp k2 0] X0 fun ae h' p => (∀ i, i < N → p i = false) ∧ (∃ w, ae = .ret w) ∧ ∃ X Y, h' = X ++ Y ∧ P (zeK g (zjg g v0 (g.next ++ g.outs).length) g.ands.length) X := by
 have hM : maxLen = 9223372036854775807 := rfl
 obtain ⟨_, i0, i1, i2, i3, i4, i5⟩ := zE hg
 obtain ⟨r1, r2, r3, r4⟩ := zaj i4
 have wf : g.first = 1 + g.ins + g.next.length := rfl
 have wa : g.all = 2 * (g.first + g.ands.length) := rfl
 have x1 := hv.gr _ _ h0
 have lN := hv.len _ _ h0
 have lt : ∀ {X : H} {i : Nat} {o : O}, X[i]? = some o → i < X.length := fun hi => (List.getElem?_eq_some_iff.1 hi).1
 have ap : ∀ {X : H} {i : Nat} {o : O} (Y : H), X[i]? = some o → (X ++ Y)[i]? = some o := fun Y hi => by rw [List.getElem?_append_left (lt hi)]; exact hi
 have gN : ∀ {X : H}, X.length = N → ∀ (Y : H) (k : Nat), (X ++ Y)[N + k]? = Y[k]? := fun {X} hX Y k => by rw [← hX]; exact gE
 have gN0 : ∀ {X : H}, X.length = N → ∀ (Y : H), (X ++ Y)[N]? = Y[0]? := fun {X} hX Y => by rw [← hX]; exact gE0
 have sN : ∀ {A : H}, A.length = N → ∀ (Z : H) (k : Nat) (y : O), (A ++ Z).set (N + k) y = A ++ Z.set k y := fun {A} hA Z k y => by rw [← hA]; exact gS
 obtain ⟨lits, hlits⟩ : ∃ lits, lits = g.next ++ g.outs := ⟨_, rfl⟩
 have hlok : ∀ a ∈ lits, 0 ≤ a ∧ a / 2 < n := fun a ha => by
  rw [hlits] at ha
  rcases List.mem_append.1 ha with ha | ha
  ·have := r3 a ha; omega
  ·have := r4 a ha; omega
 have hll : lits.length = g.next.length + g.outs.length := by rw [hlits, List.length_append]
 have hcat : EvF TE 147 [.is true 1 [zr g.next, zr g.outs]] 1 lits.length (lits.map vi) := by
  have := zhV [g.next, g.outs] (by simp; omega) (by simp)
  rwa [show [g.next, g.outs].flatten = lits by rw [hlits]; simp] at this
 refine zi Tryz.func205 rfl (by simp [nts]) ?_
 refine za (vm ?_)
 simp only [wq.down, Nat.reduceLT, Tryz.results205, lN]
 refine za (za (zK (Q := fun xe f h => xe = .normal ∧ f.t 1 = .lp k1 0 ∧ f.t 2 = .lp k2 0 ∧ f.t 3 = .lp N 0 ∧ f.t 13 = .ls (N + 1) 1 0 lits.length lits.length ∧ f.t 14 = vi lits.length ∧ f.t 15 = vi 0 ∧ f.d = [] ∧ (∀ j, f.k j = false) ∧ h = X0 ++ [.cells [.yd id], .cells (lits.map vi)]) ?_ ?_))
 ·rintro xe f h ⟨rfl, t1, t2, t3, t13, t14, t15, hd, hk, rfl⟩
  show awp _ _ _ _ _ _ _
  refine zK (Q := fun xe f h => xe = .normal ∧ f.t 1 = .lp k1 0 ∧ f.t 2 = .lp k2 0 ∧ f.t 3 = .lp N 0 ∧ f.d = [] ∧ (∀ j, j < N → f.k j = false) ∧ ∃ X, P (zjg g v0 lits.length) X ∧ h = X ++ [.cells [.yd id], .cells (lits.map vi)]) ?_ ?_
  ·rintro xe f h ⟨rfl, t1, t2, t3, hd, hk, X, hX, rfl⟩
   show awp _ _ _ _ _ _ _
   have lX := hv.len _ _ hX
   have x1 := hv.gr _ _ hX
   have lX0 := lX
   obtain ⟨vS, hvS⟩ : ∃ vS, vS = zjg g v0 lits.length := ⟨_, rfl⟩
   rw [← hvS] at hX
   obtain ⟨ydb, hydb⟩ : ∃ ydb : O, ydb = .cells [.yd id] := ⟨_, rfl⟩
   obtain ⟨row, hrow⟩ : ∃ row : O, row = .cells (lits.map vi) := ⟨_, rfl⟩
   rw [← hydb, ← hrow]
   have hlh : (X ++ [ydb, row]).length = N + 2 := by simp [lX]
   refine za (zK (Q := fun xe f h => xe = .normal ∧ f.t 1 = .lp k1 0 ∧ f.t 2 = .lp k2 0 ∧ f.t 3 = .lp N 0 ∧ f.t 26 = .fn (.func 228) [] [.ip (prs g.ands)] ∧ f.d = [] ∧ (∀ j, j < N → f.k j = false) ∧ h = X ++ [ydb, row]) ?_ ?_)
   ·rintro xe f h ⟨rfl, t1, t2, t3, t26, hd, hkf, rfl⟩
    show awp _ _ _ _ _ _ _
    refine zu ?_
    refine zl8 (n := 50) (q := 228) (first := []) (captured := [.ip (prs g.ands)]) (by simp only [wq.down, t26]) (by simp only [wq.down, t26]) rfl (zg1 g.ands (by omega)) (by intro v hv; simp only [zex, List.mem_map] at hv; obtain ⟨p, _, rfl⟩ := hv; rfl) (by decide)
     (fun L i h k => ∃ t X Y, P (zeK g vS i) X ∧ t 1 = .lp k1 0 ∧ t 2 = .lp k2 0 ∧ t 3 = .lp N 0 ∧ (∀ j, k j = false) ∧ h = X ++ ([ydb, row, .misc .dfd, L t .ready] ++ Y)) ?_ ?_ ?_
    ·intro L
     exact ⟨f.t, X, [], hX, t1, t2, t3, fun _ => rfl, by simp⟩
    ·rintro L l i h' k hi hdrop hk0 ⟨t, X, Y, hX, t1, t2, t3, hk, rfl⟩
     obtain ⟨v, hvd⟩ : ∃ v, v = zeK g vS i := ⟨_, rfl⟩
     rw [← hvd] at hX
     have lX := hv.len _ _ hX
     have hia : i < g.ands.length := by simpa [zex] using hi
     obtain ⟨p, hp⟩ : ∃ p : Nat, p = g.ands.length - 1 - i := ⟨_, rfl⟩
     have hpl : p < g.ands.length := by omega
     have he : (zex g.ands g.ands.length)[i] = [vi (p : Int), prV g.ands[p]] := by
      simp only [zex, List.getElem_map, List.getElem_range]
      rw [← hp, zt hpl]
     rw [he]
     refine ⟨t, (by rw [hlh]; exact gN lX _ 3), ?_⟩
     obtain ⟨H1, hH1⟩ : ∃ H1, H1 = X ++ ([ydb, row, .misc .dfd, L t .ready] ++ Y) := ⟨_, rfl⟩
     obtain ⟨M, hM1⟩ : ∃ M, M = H1.length := ⟨_, rfl⟩
     have gM0 : ∀ Z : H, (H1 ++ Z)[M]? = Z[0]? := fun Z => by rw [hM1]; exact gE0
     have sM0 : ∀ (Z : H) (y : O), (H1 ++ Z).set M y = H1 ++ Z.set 0 y := fun Z y => by rw [hM1]; exact gS0
     rw [← hH1]
     refine vm ?_
     simp only [wq.down, seval, ← hM1, gM0, sM0]
     rw [lX0]
     obtain ⟨pb, hpb⟩ : ∃ pb : O, pb = .cells [vi g.ands[p].fst, vi g.ands[p].snd] := ⟨_, rfl⟩
     rw [← hpb]
     refine ⟨rfl, t, by rw [hH1, List.append_assoc, gN lX]; rfl, ?_⟩
     obtain ⟨W, hW⟩ : ∃ W : H, W = [ydb, row, .misc .dfd, L t .busy] ++ Y := ⟨_, rfl⟩
     have hWl : M = N + W.length := by rw [hM1, hH1, hW]; simp [lX]
     rw [show (H1 ++ [pb]).set (N + 3) (L t .busy) = X ++ (W ++ [pb]) by rw [hH1, List.append_assoc, sN lX, hW]; rfl]
     have gW : ∀ {A : H}, A.length = N → ∀ (Z : H), (A ++ (W ++ Z))[M]? = Z[0]? := fun {A} hA Z => by rw [hWl, gN hA]; exact gE0
     have gy : ∀ {A : H}, A.length = N → ∀ (Z : H), (A ++ (W ++ Z))[N]? = some (.cells [.yd id]) := fun {A} hA Z => by rw [gN0 hA, hW, hydb]; rfl
     have hvl := hv.vlen _ _ hX
     have c2 := hv.cl _ _ hX
     have c3 := hv.rw_ _ _ hX
     have c1 := hv.gr _ _ hX
     have hfst := zcf g (by omega) (by omega) (by omega)
     have wp : IntKind.i64.wrap (g.first + (p : Int)) = g.first + p := zba (by omega) (by omega)
     obtain ⟨o1, o2, o3, o4⟩ := zaK i5 hpl
     have q1 : 0 ≤ g.first + (p : Int) := by omega
     have hvn : (g.first + (p : Int)).toNat < v.length := by rw [hvl]; omega
     have key : ∀ (v : List Bool) (A : H), P v A → ∀ lit, 0 ≤ lit → lit < 2 * (g.first + (p : Int)) → ∀ Z : H, zqJ TE id [vi lit] (A ++ (W ++ Z)) fun j h'' p => j = none ∧ (∀ i, p i = false) ∧ ∃ X', h'' = X' ++ (W ++ Z) ∧ P (zd8 v lit) X' := fun v A hA lit h1 h2 Z => hy v A (W ++ Z) lit hA h1 (by omega)
     refine zu ?_
     refine za (zO mixed zmP (fun f' h' => f'.t 1 = .lp k1 0 ∧ f'.t 2 = .lp k2 0 ∧ f'.t 3 = .lp N 0 ∧ f'.t 49 = .bool false ∧ f'.d = [] ∧ (∀ j, f'.k j = false) ∧ ∃ X', P (zeK g vS (i + 1)) X' ∧ h' = X' ++ (W ++ [pb])) (by decide +kernel) (by decide +kernel) ?_ ?_)
     ·have hLs : zeK g vS (i + 1) = if v.getD (g.first + (p : Int)).toNat false then zd8 (zd8 v g.ands[p].1) g.ands[p].2 else v := by
       simp only [zeK, ← hp, ← hvd, zt hpl]
      have hgd : ∀ (b : Bool), v.getD (g.first + (p : Int)).toNat false = b → (v.map V.bool).getD ((g.first + (p : Int)).toNat * 1) V.any = V.bool b := fun b hb => by
       rw [← hb, Nat.mul_one, List.getD_eq_getElem?_getD, List.getElem?_map, List.getElem?_eq_getElem hvn, zt hvn]; rfl
      have q2 : g.first + (p : Int) < n := by omega
      have q3 : (g.first + (p : Int)).toNat * 1 + 1 ≤ v.length := by omega
      cases hb : v.getD (g.first + (p : Int)).toNat false
      ·simp only [wq.down, seval, zmP, t1, t2, ap _ c1, ap _ c2, hpb]
       repeat' apply And.intro
       all_goals
        refine zb.ev hfst (by simp only [V.dats, V.dat, Bool.and_self]) ?_
        simp only [wq.down, seval, t1, t2, t3, ap _ c2, ap _ c3, gW lX, gy lX, wp, hgd _ hb, q1, q2, q3, ziL]
        refine ⟨.bool false, .bool false, ?_⟩
        simp only [wq.down, reduceCtorEq]
        simp only [hb, Bool.false_eq_true, if_false] at hLs
        rw [hLs]
        exact ⟨X, hX, rfl⟩
      ·simp only [hb, if_true] at hLs
       simp only [wq.down, seval, zmP, t1, t2, ap _ c1, ap _ c2, hpb]
       repeat' apply And.intro
       all_goals
        refine zb.ev hfst (by simp only [V.dats, V.dat, Bool.and_self]) ?_
        obtain ⟨t', n', ps, asg, body, pend, hL, hsz, hps, hwy⟩ := key v X hX g.ands[p].1 o1 o3 [.cells [vi g.ands[p].fst, vi g.ands[p].snd]]
        simp only [wq.down, seval, t1, t2, t3, ap _ c2, ap _ c3, gW lX, gy lX, wp, hgd _ hb, q1, q2, q3, ziL, hL, hps]
       repeat' apply And.intro
       all_goals first
        | decide
        | (simpa using hsz)
        | skip
       all_goals
        refine zbt hwy ?_
        rintro j h'' q hq ⟨rfl, hqf, X', rfl, hX'⟩
        have hqf' : q = fun _ => false := funext hqf
        subst hqf'
        refine ⟨fun i _ => rfl, ?_⟩
        have lX' := hv.len _ _ hX'
        obtain ⟨t'', n'', ps', asg', body', pend', hL', hsz', hps', hwy'⟩ := key _ X' hX' g.ands[p].2 o2 o4 [.cells [vi g.ands[p].fst, vi g.ands[p].snd]]
        simp only [wq.down, seval, t1, t2, t3, gW lX', gy lX', Option.isNone_none, ziL, hL', hps']
       repeat' apply And.intro
       all_goals first
        | decide
        | (simpa using hsz')
        | skip
       all_goals
        refine zbt hwy' ?_
        rintro j h'' q hq ⟨rfl, hqf, X'', rfl, hX''⟩
        have hqf' : q = fun _ => false := funext hqf
        subst hqf'
        refine ⟨fun i _ => rfl, ?_⟩
        simp only [wq.down, seval, t1, t2, t3, Option.isNone_none]
        rw [hLs]
        exact ⟨X'', hX'', rfl⟩
     ·rintro f' h' ⟨u1, u2, u3, u49, ud, uk, X', hX', rfl⟩
      show awp _ _ _ _ _ _ _
      refine vm ?_
      simp only [wq.down, u49]
      have lX' := hv.len _ _ hX'
      exact ⟨uk _, t, by rw [gN lX', hW]; rfl, t, X', Y ++ [pb], hX', t1, t2, t3, fun j => by rw [hk, uk]; rfl, by rw [sN lX', hW]; simp⟩
    ·rintro L h' k hk0 ⟨t, X, Y, hX, t1, t2, t3, hk, rfl⟩
     have lX := hv.len _ _ hX
     refine ⟨t, (by rw [hlh]; exact gN lX _ 3), fun j _ => hk j, ?_⟩
     simp only [wq.down, Nat.reduceAdd, hd, lX0, sN lX, gN lX]
     refine ⟨fun j hj => by rw [hkf j hj, hk j]; rfl, ⟨_, rfl⟩, X, _, rfl, ?_⟩
     have : (zex g.ands g.ands.length).length = g.ands.length := by simp [zex]
     rw [this, hvS, hll] at hX
     exact hX
   ·refine vm ?_
    simp only [wq.down, seval, t1, ap _ x1]
    refine zb.ev (zjf g.ands) (by simp only [V.dats, V.dat, Bool.and_self]) ?_
    simp only [wq.down, seval, t1, t2, t3, hd]
    exact hk
  ·refine zu ?_
   refine zw (fun m f h => ∃ i, m + i = lits.length ∧ f.t 1 = .lp k1 0 ∧ f.t 2 = .lp k2 0 ∧ f.t 3 = .lp N 0 ∧ f.t 13 = .ls (N + 1) 1 0 lits.length lits.length ∧ f.t 14 = vi lits.length ∧ f.t 15 = vi i ∧ f.d = [] ∧ (∀ j, f.k j = false) ∧ ∃ X, P (zjg g v0 i) X ∧ h = X ++ [.cells [.yd id], .cells (lits.map vi)]) lits.length
    ⟨0, by omega, t1, t2, t3, t13, t14, t15, hd, hk, X0, h0, rfl⟩ ?_
   rintro m f h ⟨i, hm, t1, t2, t3, t13, t14, t15, hd, hk, X, hX, rfl⟩
   have lX := hv.len _ _ hX
   have hlm : (lits.map vi).length = lits.length := List.length_map ..
   refine vm ?_
   simp only [wq.down, seval, t14, t15]
   refine vcB.mk (fun hlt => ?_) (fun hlt => ?_)
   ·simp only [decide_eq_true_eq, Int.ofNat_lt] at hlt
    have hgi := ziY hlt V.any
    have hw := zm (show i < maxLen by omega)
    obtain ⟨o1, o2⟩ := hlok _ (List.getElem_mem hlt)
    obtain ⟨t, n', ps, asg, body, pend, hL, hsz, hps, hwy⟩ := hy _ X [.cells [.yd id], .cells (lits.map vi)] lits[i] hX o1 o2
    simp only [wq.down, seval, t3, t13, t15, gN lX, gN0 lX, hgi, hL, Nat.mul_one]
    refine ⟨⟨by omega, by omega⟩, by omega, ⟨by simpa using hsz, hps⟩, zbt hwy ?_⟩
    rintro j h'' p hp ⟨rfl, hpf, X', rfl, hX'⟩
    have hpf' : p = fun _ => false := funext hpf
    subst hpf'
    refine ⟨by simp [zfO, hd], ?_⟩
    simp only [wq.down, seval, t15, hw, Option.isNone_none]
    refine .inl ⟨m - 1, by omega, i + 1, by omega, by simp only [wq.down, seval, t1], by simp only [wq.down, seval, t2], by simp only [wq.down, seval, t3], by simp only [wq.down, seval, t13], by simp only [wq.down, seval, t14], by simp only [wq.down, ↓reduceIte], by simp only [wq.down, hd], fun j => by (simp only [wq.down]); simpa using hk j, X', ?_, rfl⟩
    have : zjg g v0 (i + 1) = zd8 (zjg g v0 i) lits[i] := by
     unfold zjg
     rw [← hlits, show lits.take (i + 1) = lits.take i ++ [lits[i]] by rw [List.take_add_one, List.getElem?_eq_getElem hlt]; rfl, List.foldl_append]
     rfl
    rw [this]
    exact hX'
   ·simp only [decide_eq_false_iff_not, Int.ofNat_lt] at hlt
    have hi : i = lits.length := by omega
    subst hi
    simp only [wq.down, ↓reduceIte, Nat.reduceEqDiff, t1, t2, t3, hd]
    exact ⟨fun j _ => hk j, X, hX, rfl⟩
 ·refine vm ?_
  simp only [wq.down, ↓reduceIte, Nat.reduceEqDiff, Nat.reduceLT, Nat.reduceLeDiff, Nat.reduceAdd, reduceCtorEq, Nat.reduceMul, ap _ x1]
  refine ⟨⟨rfl, by decide⟩, zd0 hcat rfl (zd2 _) ?_⟩
  simp only [wq.down, seval, lN, List.append_assoc]
def Gr.vars (g : Gr) : Nat := 1 + g.ins.toNat + g.next.length + g.ands.length
def zey (g : Gr) : List Bool := zeK g (zjg g (List.replicate g.vars false) (g.next ++ g.outs).length) g.ands.length
theorem zjW {g : Gr} : (zey g).length = g.vars := by unfold zey; rw [zeL, zjV, List.length_replicate]
def zpn : Plan := .take 2 <| .alt 0 (.alt 1 (.alt 3 (.alt 4 (.alt 5 (.alt 6 (.one 7 <| .one 8 <| .fin) (.one 7 (.one 6 <| .one 8 <| .fin))) (.one 7 (.one 5 <| .one 6 <| .one 8 <| .fin))) (.one 7 (.one 4 <| .one 5 <| .one 6 <| .one 8 <| .fin))) (.one 7 (.one 3 <| .one 4 <| .one 5 <| .one 6 <| .one 8 <| .fin))) (.alt 3 (.alt 1 (.alt 4 (.alt 5 (.alt 6 (.one 7 <| .one 8 <| .fin) (.one 7 (.one 6 <| .one 8 <| .fin))) (.one 7 (.one 5 <| .one 6 <| .one 8 <| .fin))) (.one 7 (.one 4 <| .one 5 <| .one 6 <| .one 8 <| .fin))) (.alt 4 (.alt 1 (.alt 5 (.alt 6 (.one 7 <| .one 8 <| .fin) (.one 7 (.one 6 <| .one 8 <| .fin))) (.one 7 (.one 5 <| .one 6 <| .one 8 <| .fin))) (.one 7 (.one 1 <| .one 5 <| .one 6 <| .one 8 <| .fin))) (.one 7 (.alt 1 (.one 4 <| .one 5 <| .one 6 <| .one 8 <| .fin) (.one 4 (.one 1 <| .one 5 <| .one 6 <| .one 8 <| .fin)))))) (.one 7 (.alt 1 (.one 3 <| .one 4 <| .one 5 <| .one 6 <| .one 8 <| .fin) (.one 3 (.alt 1 (.one 4 <| .one 5 <| .one 6 <| .one 8 <| .fin) (.one 4 (.one 1 <| .one 5 <| .one 6 <| .one 8 <| .fin)))))))) (.alt 3 (.alt 0 (.alt 1 (.alt 4 (.alt 5 (.alt 6 (.one 7 <| .one 8 <| .fin) (.one 7 (.one 6 <| .one 8 <| .fin))) (.one 7 (.one 5 <| .one 6 <| .one 8 <| .fin))) (.one 7 (.one 4 <| .one 5 <| .one 6 <| .one 8 <| .fin))) (.alt 4 (.alt 1 (.alt 5 (.alt 6 (.one 7 <| .one 8 <| .fin) (.one 7 (.one 6 <| .one 8 <| .fin))) (.one 7 (.one 5 <| .one 6 <| .one 8 <| .fin))) (.one 7 (.one 1 <| .one 5 <| .one 6 <| .one 8 <| .fin))) (.one 7 (.alt 1 (.one 4 <| .one 5 <| .one 6 <| .one 8 <| .fin) (.one 4 (.one 1 <| .one 5 <| .one 6 <| .one 8 <| .fin)))))) (.alt 4 (.alt 0 (.alt 1 (.alt 5 (.alt 6 (.one 7 <| .one 8 <| .fin) (.one 7 (.one 6 <| .one 8 <| .fin))) (.one 7 (.one 5 <| .one 6 <| .one 8 <| .fin))) (.one 7 (.one 1 <| .one 5 <| .one 6 <| .one 8 <| .fin))) (.one 7 (.one 0 <| .one 1 <| .one 5 <| .one 6 <| .one 8 <| .fin))) (.one 7 (.alt 0 (.alt 1 (.one 4 <| .one 5 <| .one 6 <| .one 8 <| .fin) (.one 4 (.one 1 <| .one 5 <| .one 6 <| .one 8 <| .fin))) (.one 4 (.one 0 <| .one 1 <| .one 5 <| .one 6 <| .one 8 <| .fin)))))) (.one 7 (.alt 0 (.alt 1 (.one 3 <| .one 4 <| .one 5 <| .one 6 <| .one 8 <| .fin) (.one 3 (.alt 1 (.one 4 <| .one 5 <| .one 6 <| .one 8 <| .fin) (.one 4 (.one 1 <| .one 5 <| .one 6 <| .one 8 <| .fin))))) (.one 3 (.alt 0 (.alt 1 (.one 4 <| .one 5 <| .one 6 <| .one 8 <| .fin) (.one 4 (.one 1 <| .one 5 <| .one 6 <| .one 8 <| .fin))) (.one 4 (.one 0 <| .one 1 <| .one 5 <| .one 6 <| .one 8 <| .fin)))))))
set_option maxHeartbeats 8000000 in
theorem zqf {g : Gr} (hg : g.chk = 0) : EvF TE 91 [g.v] 1 g.vars ((zey g).map V.bool) := by
 have hM : maxLen = 9223372036854775807 := rfl
 obtain ⟨_, i0, i1, i2, i3, i4, i5⟩ := zE hg
 have wf : g.first = 1 + g.ins + g.next.length := rfl
 have hfst := zcf g (by omega) (by omega) (by omega)
 obtain ⟨n, hn⟩ : ∃ n, n = g.vars := ⟨_, rfl⟩
 have hnv : (n : Int) = g.first + g.ands.length := by rw [hn]; unfold Gr.vars; omega
 have wn : IntKind.i64.wrap (g.first + (g.ands.length : Int)) = (n : Int) := by rw [hnv]; exact zba (by omega) (by omega)
 unfold EvF
 unfold Gr.v at hfst ⊢
 rw [← hn]
 refine zi Tryz.func91 rfl (by simp [nts]) ?_
 refine za (vm ?_)
 simp only [wq.down, Nat.reduceLT, Tryz.results91]
 refine za (zO mixed zpn (fun f' h' => f'.t 1 = .lp 0 0 ∧ f'.d = [] ∧ (∀ j, f'.k j = false) ∧ ((f'.t 3 = .lp 2 0 ∧ h' = [.cells [vi g.ins, zr g.next, zr g.init, prs g.ands, zr g.outs], .cells (List.replicate n (V.bool false)), .cells [.ls 1 1 0 n n]]) ∨ (f'.t 3 = .lp 1 0 ∧ h' = [.cells [vi g.ins, zr g.next, zr g.init, prs g.ands, zr g.outs], .cells [.ls 2 1 0 n n], .cells (List.replicate n (V.bool false))]))) (by decide +kernel) (by decide +kernel) ?_ ?_)
 ·simp only [wq.down, seval, zpn]
  repeat' apply And.intro
  all_goals
   refine zb.ev hfst (by simp only [V.dats, V.dat, Bool.and_self]) ?_
   simp only [wq.down, seval, wn]
  all_goals
   repeat' apply And.intro
  all_goals omega
 ·rintro f h' ⟨t1, hd, hk, hcase⟩
  show awp _ _ _ _ _ _ _
  obtain ⟨rr, kc, X0, hX0, t3, rfl, hrk⟩ : ∃ rr kc X0, h' = X0 ∧ f.t 3 = .lp kc 0 ∧ X0 = (if rr = 1 then [.cells [vi g.ins, zr g.next, zr g.init, prs g.ands, zr g.outs], .cells (List.replicate n (V.bool false)), .cells [.ls 1 1 0 n n]] else [.cells [vi g.ins, zr g.next, zr g.init, prs g.ands, zr g.outs], .cells [.ls 2 1 0 n n], .cells (List.replicate n (V.bool false))]) ∧ ((rr = 1 ∧ kc = 2) ∨ (rr = 2 ∧ kc = 1)) := by
   rcases hcase with ⟨a, b⟩ | ⟨a, b⟩
   ·exact ⟨1, 2, h', rfl, a, b, .inl ⟨rfl, rfl⟩⟩
   ·exact ⟨2, 1, h', rfl, a, b, .inr ⟨rfl, rfl⟩⟩
  clear hcase
  subst hX0
  rcases hrk with ⟨rfl, rfl⟩ | ⟨rfl, rfl⟩
  ·simp only [if_true]
   refine za (vm ?_)
   simp only [wq.down, seval, t1, t3]
   refine zdC ?_
   simp only [wq.down, Nat.reduceAdd]
   refine zcK (n := 21) (q := 205) (first := []) (captured := [.lp 3 0, .lp 4 0]) (by simp only [wq.down, ↓reduceIte]) (by simp only [wq.down, ↓reduceIte]) rfl (by decide) ?_
   intro L hLd gets
   refine zb.mono (zc2 hg (id := 6) (k1 := 3) (k2 := 4) (rr := 1) (n := n) (N := 7) (P := fun v X => ∃ t, t 3 = .lp 2 0 ∧ v.length = n ∧ X = [O.cells [vi g.ins, zr g.next, zr g.init, prs g.ands, zr g.outs], .cells (v.map V.bool), .cells [.ls 1 1 0 n n], O.cells [vi g.ins, zr g.next, zr g.init, prs g.ands, zr g.outs], .cells [.ls 1 1 0 n n], .misc .dfd, L t .ready none]) hnv ⟨?_, ?_, ?_, ?_, ?_⟩ (by omega) ?_ (v0 := List.replicate n false) ⟨_, ?_, List.length_replicate, by rw [List.map_replicate]; rfl⟩) ?_
   ·rintro v X ⟨t, ht, hl, rfl⟩; rfl
   ·rintro v X ⟨t, ht, hl, rfl⟩; rfl
   ·rintro v X ⟨t, ht, hl, rfl⟩; rfl
   ·rintro v X ⟨t, ht, hl, rfl⟩; rfl
   ·rintro v X ⟨t, ht, hl, rfl⟩; exact hl
   ·rintro v X Y lit ⟨t, ht, hl, rfl⟩ h0 h1
    refine gets _ _ _ t rfl rfl (fun lb => ?_)
    refine vm ?_
    simp only [wq.down, seval, ze7]
    refine ⟨t, rfl, ?_⟩
    refine vm ?_
    have hdv : lit.fdiv (2 ^ min 1 IntKind.i64.bits) = lit / 2 := by
     rw [show (2 : Int) ^ min 1 IntKind.i64.bits = 2 from rfl]; exact Int.fdiv_eq_ediv_of_nonneg _ (by decide)
    have hlt : (lit / 2).toNat < v.length := by rw [hl]; omega
    simp only [wq.down, seval, ht, zek, XE.jump, hdv, Nat.mul_one, Option.isNone_none]
    refine ⟨⟨by omega, by omega⟩, by omega, t, _, rfl, [_, _, _, _, _, _, _], rfl, t, ht, by rw [zcg, hl], ?_⟩
    rw [show List.map V.bool (zd8 v lit) = (v.map V.bool).take (lit / 2).toNat ++ [V.bool true] ++ (v.map V.bool).drop ((lit / 2).toNat + 1) by
     unfold zd8
     rw [List.map_set, List.set_eq_take_append_cons_drop, if_pos (by simpa using hlt), List.append_assoc]; rfl]
   ·simp only [wq.down, seval, t3]
   ·rintro ae h' p ⟨hp, ⟨w, rfl⟩, X, Y, rfl, t, ht, hl, rfl⟩
    refine ⟨?_, hp 6 (by omega), t, _, none, (by decide), rfl, ?_⟩
    ·intro i hi
     have hi : i = 5 := by simpa [zfO, hd] using hi
     subst hi
     exact hp 5 (by omega)
    ·have k0 := hp 0 (by omega)
     have k1 := hp 1 (by omega)
     have k2 := hp 2 (by omega)
     have k3 := hp 3 (by omega)
     have k5 := hp 5 (by omega)
     have k6 := hp 6 (by omega)
     simp only [wq.down, Nat.reduceAdd, zkE, hd]
     refine vm ?_
     simp only [wq.down, seval, k2, t3]
     exact .inr ⟨1, n, rfl, Nat.le_refl _, by unfold zey; rw [← hn, List.length_append]; rfl⟩
  ·simp only [show ((2 : Nat) = 1) = False from by simp, if_false]
   refine za (vm ?_)
   simp only [wq.down, seval, t1, t3]
   refine zdC ?_
   simp only [wq.down, Nat.reduceAdd]
   refine zcK (n := 21) (q := 205) (first := []) (captured := [.lp 3 0, .lp 4 0]) (by simp only [wq.down, ↓reduceIte]) (by simp only [wq.down, ↓reduceIte]) rfl (by decide) ?_
   intro L hLd gets
   refine zb.mono (zc2 hg (id := 6) (k1 := 3) (k2 := 4) (rr := 2) (n := n) (N := 7) (P := fun v X => ∃ t, t 3 = .lp 1 0 ∧ v.length = n ∧ X = [O.cells [vi g.ins, zr g.next, zr g.init, prs g.ands, zr g.outs], .cells [.ls 2 1 0 n n], .cells (v.map V.bool), O.cells [vi g.ins, zr g.next, zr g.init, prs g.ands, zr g.outs], .cells [.ls 2 1 0 n n], .misc .dfd, L t .ready none]) hnv ⟨?_, ?_, ?_, ?_, ?_⟩ (by omega) ?_ (v0 := List.replicate n false) ⟨_, ?_, List.length_replicate, by rw [List.map_replicate]; rfl⟩) ?_
   ·rintro v X ⟨t, ht, hl, rfl⟩; rfl
   ·rintro v X ⟨t, ht, hl, rfl⟩; rfl
   ·rintro v X ⟨t, ht, hl, rfl⟩; rfl
   ·rintro v X ⟨t, ht, hl, rfl⟩; rfl
   ·rintro v X ⟨t, ht, hl, rfl⟩; exact hl
   ·rintro v X Y lit ⟨t, ht, hl, rfl⟩ h0 h1
    refine gets _ _ _ t rfl rfl (fun lb => ?_)
    refine vm ?_
    simp only [wq.down, seval, ze7]
    refine ⟨t, rfl, ?_⟩
    refine vm ?_
    have hdv : lit.fdiv (2 ^ min 1 IntKind.i64.bits) = lit / 2 := by
     rw [show (2 : Int) ^ min 1 IntKind.i64.bits = 2 from rfl]; exact Int.fdiv_eq_ediv_of_nonneg _ (by decide)
    have hlt : (lit / 2).toNat < v.length := by rw [hl]; omega
    simp only [wq.down, seval, ht, zek, XE.jump, hdv, Nat.mul_one, Option.isNone_none]
    refine ⟨⟨by omega, by omega⟩, by omega, t, _, rfl, [_, _, _, _, _, _, _], rfl, t, ht, by rw [zcg, hl], ?_⟩
    rw [show List.map V.bool (zd8 v lit) = (v.map V.bool).take (lit / 2).toNat ++ [V.bool true] ++ (v.map V.bool).drop ((lit / 2).toNat + 1) by
     unfold zd8
     rw [List.map_set, List.set_eq_take_append_cons_drop, if_pos (by simpa using hlt), List.append_assoc]; rfl]
   ·simp only [wq.down, seval, t3]
   ·rintro ae h' p ⟨hp, ⟨w, rfl⟩, X, Y, rfl, t, ht, hl, rfl⟩
    refine ⟨?_, hp 6 (by omega), t, _, none, (by decide), rfl, ?_⟩
    ·intro i hi
     have hi : i = 5 := by simpa [zfO, hd] using hi
     subst hi
     exact hp 5 (by omega)
    ·have k0 := hp 0 (by omega)
     have k1 := hp 1 (by omega)
     have k2 := hp 2 (by omega)
     have k3 := hp 3 (by omega)
     have k5 := hp 5 (by omega)
     have k6 := hp 6 (by omega)
     simp only [wq.down, Nat.reduceAdd, zkE, hd]
     refine vm ?_
     simp only [wq.down, seval, k1, t3]
     exact .inr ⟨2, n, rfl, Nat.le_refl _, by unfold zey; rw [← hn, List.length_append]; rfl⟩
def zbW (f0 : Int) (u : Bool) (s : List Pr × Cl) (p : Pr) : List Pr × Cl :=
 if u then ((zdk f0 s.1 (zaa s.2 p.1) (zaa s.2 p.2)).1, s.2 ++ [(zdk f0 s.1 (zaa s.2 p.1) (zaa s.2 p.2)).2]) else (s.1, s.2 ++ [0])
def zF (g : Gr) (use : Nat → Bool) : Nat → List Pr × Cl
 | 0 => ([], zbU g.first.toNat)
 | i + 1 => zbW g.first (use i) (zF g use i) (g.ands.getD i (0, 0))
def zbf (g : Gr) (s : List Pr × Cl) : Gr := ⟨g.ins, g.next.map (zaa s.2), g.init, s.1, g.outs.map (zaa s.2)⟩
theorem zqg {x k : Int} (h0 : 0 ≤ x) (h1 : x < 2 * k) : 0 ≤ ziC x ∧ ziC x < 2 * k := by
 unfold ziC
 split <;> omega
theorem zaT {C : Cl} {k a : Int} (hk : 0 < k) (hC : ∀ x ∈ C, 0 ≤ x ∧ x < 2 * k) : 0 ≤ zaa C a ∧ zaa C a < 2 * k := by
 have hg : 0 ≤ C.getD (a / 2).toNat 0 ∧ C.getD (a / 2).toNat 0 < 2 * k := by
  by_cases hi : (a / 2).toNat < C.length
  ·rw [zt hi]; exact hC _ (List.getElem_mem hi)
  ·rw [List.getD_eq_getElem?_getD, List.getElem?_eq_none (by omega)]; exact ⟨Int.le_refl _, by simp; omega⟩
 unfold zaa
 split
 ·exact zqg hg.1 hg.2
 ·exact hg
theorem zqh {f0 : Int} (hf : 0 < f0) {A : List Pr} {p q : Int} (hp : 0 ≤ p ∧ p < 2 * (f0 + A.length)) (hq : 0 ≤ q ∧ q < 2 * (f0 + A.length)) :
 A.length ≤ (zdk f0 A p q).1.length ∧ (zdk f0 A p q).1.length ≤ A.length + 1 ∧ 0 ≤ (zdk f0 A p q).2 ∧ (zdk f0 A p q).2 < 2 * (f0 + (zdk f0 A p q).1.length) := by
 unfold zdk
 split
 ·exact ⟨Nat.le_refl _, Nat.le_succ _, Int.le_refl _, by simp only; omega⟩
 ·split
  ·exact ⟨Nat.le_refl _, Nat.le_succ _, by simp only; omega, by simp only; omega⟩
  ·split
   ·rename_i i hi
    have hi : i < A.length := (List.findIdx?_eq_some_iff_getElem.1 hi).1
    exact ⟨Nat.le_refl _, Nat.le_succ _, by simp only; omega, by simp only; omega⟩
   ·simp only [List.length_append, List.length_singleton]
    exact ⟨by omega, by omega, by omega, by omega⟩
theorem zan {g : Gr} (h : 0 ≤ g.ins) : 0 < g.first := by
 have : g.first = 1 + g.ins + g.next.length := rfl
 omega
theorem zaU {g : Gr} (h : 0 ≤ g.ins) (use : Nat → Bool) : ∀ i, (zF g use i).1.length ≤ i ∧ (zF g use i).2.length = g.first.toNat + i ∧ ∀ x ∈ (zF g use i).2, 0 ≤ x ∧ x < 2 * (g.first + (zF g use i).1.length)
 | 0 => by
  have := zan h
  refine ⟨Nat.le_refl _, by simp [zF, zbU], fun x hx => ?_⟩
  simp only [zF, zbU, List.mem_map, List.mem_range] at hx
  obtain ⟨k, hk, rfl⟩ := hx
  simp only [zF, List.length_nil]
  omega
 | i + 1 => by
  have hf := zan h
  obtain ⟨h1, h2, h3⟩ := zaU h use i
  show (zbW _ _ _ _).1.length ≤ _ ∧ (zbW _ _ _ _).2.length = _ ∧ _
  show _ ∧ _ ∧ ∀ x ∈ (zbW _ _ _ _).2, 0 ≤ x ∧ x < 2 * (g.first + (zbW _ _ _ _).1.length)
  generalize zF g use i = s at h1 h2 h3 ⊢
  generalize g.ands.getD i (0, 0) = p
  unfold zbW
  split
  ·obtain ⟨a1, a2, a3, a4⟩ := zqh hf (zaT (a := p.1) (by omega) h3) (zaT (a := p.2) (by omega) h3)
   refine ⟨by simp only; omega, by simp only [List.length_append, List.length_singleton]; omega, fun x hx => ?_⟩
   simp only [List.mem_append, List.mem_singleton] at hx
   rcases hx with hx | rfl
   ·have := h3 x hx
    simp only
    omega
   ·exact ⟨a3, a4⟩
  ·refine ⟨by simp only; omega, by simp only [List.length_append, List.length_singleton]; omega, fun x hx => ?_⟩
   simp only [List.mem_append, List.mem_singleton] at hx
   rcases hx with hx | rfl
   ·exact h3 x hx
   ·exact ⟨Int.le_refl _, by simp only; omega⟩
theorem zou {f0 : Int} {A : List Pr} {p q : Int} (hp : 0 ≤ p ∧ p < 2 * (f0 + A.length)) (hq : 0 ≤ q ∧ q < 2 * (f0 + A.length))
 (hA : ∀ k (hk : k < A.length), 0 ≤ A[k].1 ∧ 0 ≤ A[k].2 ∧ A[k].1 < 2 * (f0 + k) ∧ A[k].2 < 2 * (f0 + k)) :
 ∀ k (hk : k < (zdk f0 A p q).1.length), 0 ≤ (zdk f0 A p q).1[k].1 ∧ 0 ≤ (zdk f0 A p q).1[k].2 ∧ (zdk f0 A p q).1[k].1 < 2 * (f0 + k) ∧ (zdk f0 A p q).1[k].2 < 2 * (f0 + k) := by
 have : (zdk f0 A p q).1 = A ∨ (zdk f0 A p q).1 = A ++ [(max p q, min p q)] := by
  unfold zdk
  split
  ·exact .inl rfl
  ·split
   ·exact .inl rfl
   ·split
    ·exact .inl rfl
    ·exact .inr rfl
 generalize (zdk f0 A p q).1 = B at this ⊢
 rcases this with rfl | rfl
 ·exact hA
 ·intro k hk
  by_cases hkl : k < A.length
  ·rw [List.getElem_append_left hkl]; exact hA k hkl
  ·have : k = A.length := by simp at hk; omega
   subst this
   rw [List.getElem_append_right (Nat.le_refl _)]
   simp only [Nat.sub_self, List.getElem_cons_zero]
   omega
theorem zgc {g : Gr} (h : 0 ≤ g.ins) (use : Nat → Bool) : ∀ i k (hk : k < (zF g use i).1.length), 0 ≤ (zF g use i).1[k].1 ∧ 0 ≤ (zF g use i).1[k].2 ∧ (zF g use i).1[k].1 < 2 * (g.first + k) ∧ (zF g use i).1[k].2 < 2 * (g.first + k)
 | 0 => fun k hk => by simp [zF] at hk
 | i + 1 => by
  have hf := zan h
  obtain ⟨h1, h2, h3⟩ := zaU h use i
  have ih := zgc h use i
  show ∀ k (hk : k < (zbW g.first (use i) (zF g use i) (g.ands.getD i (0, 0))).1.length), 0 ≤ (zbW g.first (use i) (zF g use i) (g.ands.getD i (0, 0))).1[k].1 ∧ 0 ≤ (zbW g.first (use i) (zF g use i) (g.ands.getD i (0, 0))).1[k].2 ∧ (zbW g.first (use i) (zF g use i) (g.ands.getD i (0, 0))).1[k].1 < 2 * (g.first + k) ∧ (zbW g.first (use i) (zF g use i) (g.ands.getD i (0, 0))).1[k].2 < 2 * (g.first + k)
  generalize zF g use i = s at h1 h2 h3 ih ⊢
  generalize g.ands.getD i (0, 0) = p
  cases use i with
  | true => exact zou (zaT (a := p.1) (by omega) h3) (zaT (a := p.2) (by omega) h3) ih
  | false => exact ih
theorem zar {g : Gr} (hg : g.chk = 0) (use : Nat → Bool) : (zbf g (zF g use g.ands.length)).chk = 0 := by
 obtain ⟨i, i0, i1, i2, i3, i4, i5⟩ := zE hg
 obtain ⟨r1, r2, r3, r4⟩ := zaj i4
 have hf := zan i0
 obtain ⟨h1, h2, h3⟩ := zaU i0 use g.ands.length
 have h4 := zgc i0 use g.ands.length
 generalize zF g use g.ands.length = s at h1 h2 h3 h4 ⊢
 obtain ⟨A, C⟩ := s
 dsimp only at h1 h2 h3 h4
 have hc := fun a => zaT (C := C) (a := a) (k := g.first + A.length) (by omega) h3
 have fe : (zbf g (A, C)).first = g.first := by simp [zbf, Gr.first]
 have ae : (zbf g (A, C)).all = 2 * (g.first + A.length) := by unfold Gr.all; rw [fe]; rfl
 have l1 : (zbf g (A, C)).lim = false := by
  show (decide (g.ins < 0) || decide (4000 < g.ins) || decide (4000 < g.ins + (g.next.map (zaa C)).length + A.length) || decide (4000 < ((g.outs.map (zaa C)).length : Int))) = false
  simp only [List.length_map, Bool.or_eq_false_iff, decide_eq_false_iff_not]
  omega
 have l2 : (zbf g (A, C)).oddR = false := by
  simp only [Gr.oddR, ae, Bool.or_eq_false_iff, bne_eq_false_iff_eq, List.any_eq_false, zn9, zqL, Bool.not_eq_true, decide_eq_false_iff_not]
  simp only [zbf, List.length_map, List.mem_map]
  refine ⟨⟨⟨r1, fun a ha => ?_⟩, ?_⟩, ?_⟩
  ·have := r2 a ha; omega
  ·rintro a ⟨b, hb, rfl⟩; have := hc b; omega
  ·rintro a ⟨b, hb, rfl⟩; have := hc b; omega
 have l3 : (zbf g (A, C)).oddAs (zbf g (A, C)).ands.length = false := by
  unfold Gr.oddAs
  rw [List.any_eq_false]
  intro k hk
  have hk : k < A.length := by simpa [zbf] using hk
  rw [fe]
  show ¬ zsa (2 * (g.first + k)) (A.getD k (0, 0)) = true
  rw [zt hk]
  have := h4 k hk
  simp only [zsa, Bool.or_eq_true, decide_eq_true_eq]
  omega
 unfold Gr.chk
 rw [l1, l2, l3]
 rfl
end Go.Proofs.YtboolnpmlmgpkaaGreatDoor
