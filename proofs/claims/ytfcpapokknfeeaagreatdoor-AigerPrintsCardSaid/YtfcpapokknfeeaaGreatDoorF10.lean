/- Lemmas for the statement of this claim, part F10: they hold with no conditions but those that each one names. -/
import Derived.Test.YtfcpapokknfeeaaGreatDoorF09
import Derived.Test.YtfcpapokknfeeaaGreatDoorA12
set_option linter.unusedVariables false
set_option maxRecDepth 20000
set_option linter.unusedSimpArgs false
set_option linter.unnecessarySimpa false
namespace Go.Proofs.YtfcpapokknfeeaaGreatDoor
open Go Go.Proofs Go.Abs
theorem uY {use : Nat → Bool} {j : Nat} (hu : use j = true) : ∀ {n : Nat}, j < n → ((List.range n).filter use)[nV use j]? = some j
 | 0, h => by omega
 | n + 1, h => by
  rw [List.range_succ, List.filter_append];by_cases hj : j = n
  ·subst hj;rw [List.getElem?_append_right (show ((List.range j).filter use).length ≤ nV use j from Nat.le_refl _)];show ([j].filter use)[nV use j - nV use j]? = _;rw [Nat.sub_self];simp [hu]
  ·have hlt : j < n := by omega
   rw [List.getElem?_append_left (by show nV use j < nV use n; exact y5 hlt hu)];exact uY hu hlt
theorem CS {use : Nat → Bool} {r : Nat} : ∀ {n : Nat}, r < nV use n → ∃ i, i < n ∧ use i = true ∧ nV use i = r
 | 0, h => by simp [nV] at h
 | n + 1, h => by
  by_cases hr : r < nV use n
  ·obtain ⟨i, h1, h2, h3⟩ := CS hr;exact ⟨i, by omega, h2, h3⟩
  ·rw [uV] at h;cases hu : use n with
   | true => rw [hu] at h; simp at h; exact ⟨n, by omega, hu, by omega⟩
   | false => rw [hu] at h; simp at h; omega
theorem Ox {g : Gr} {use : Nat → Bool} {j n : Nat} (hu : use j = true) (hj : j < n) : (rX g use n)[nV use j]? = some (reA g.first.toNat use (g.ands.getD j (0, 0)).1, reA g.first.toNat use (g.ands.getD j (0, 0)).2) := by unfold rX;rw [List.getElem?_map, uY hu hj];rfl
theorem nP {g : Gr} (h : 0 ≤ g.ins) : (g.vars : Int) = g.first + g.ands.length := by
 have : g.first = 1 + g.ins + g.next.length := rfl
 unfold Gr.vars; omega
def iI (x : Gr) : Nat → Bool := fun i => (qB x).getD (x.first + (i : Int)).toNat false
theorem qW {x : Gr} (hx : x.chk = 0) : Yy x (iI x) := by
 obtain ⟨_, i0, i1, i2, i3, i4, i5⟩ := bQ hx;have hf := bV i0;intro i hi hu;obtain ⟨h1, h2⟩ := xG hx hi hu;have key : ∀ w : Nat, (qB x).getD w false = true → Rq x.first.toNat (iI x) w := fun w hw => by
  by_cases h : w < x.first.toNat
  ·exact .inl h
  ·refine .inr ?_;unfold iI;rw [show (x.first + ((w - x.first.toNat : Nat) : Int)).toNat = w by omega];exact hw
 exact ⟨key _ h1, key _ h2⟩
theorem Oy {x : Gr} {w : Nat} (h : (qB x).getD w false = true) : w < x.vars := by
 by_cases hw : w < x.vars
 ·exact hw
 ·rw [List.getD_eq_getElem?_getD, List.getElem?_eq_none (by rw [sS]; omega)] at h;cases h
set_option maxHeartbeats 2000000 in
theorem TR {x : Gr} (hx : x.chk = 0) (hga : CJ x.ands) : ∀ (k w : Nat), w + k = x.vars → (qB x).getD w false = true →
 (qB (jh x (bC x (iI x) x.ands.length))).getD (oW x.first.toNat (iI x) w) false = true := by
 obtain ⟨_, i0, i1, i2, i3, i4, i5⟩ := bQ hx;have hf := bV i0;have hv := nP i0;have hy := iE hx (iI x);obtain ⟨e1, e2⟩ := qV hx hga (qW hx) x.ands.length (Nat.le_refl _);obtain ⟨s, hs⟩ : ∃ s, s = bC x (iI x) x.ands.length := ⟨_, rfl⟩;rw [← hs] at e1 e2 hy ⊢;have yf : (jh x s).first = x.first := by simp [jh, Gr.first]
 have yl : (jh x s).ands.length = nV (iI x) x.ands.length := by show s.1.length = _; rw [e1, qj]
 have hyv : ((jh x s).vars : Int) = x.first + (nV (iI x) x.ands.length : Nat) := by rw [nP (show 0 ≤ (jh x s).ins from i0), yf, yl]
 have live : ∀ w : Nat, (qB x).getD w false = true → Rq x.first.toNat (iI x) w := fun w hw => by
  by_cases h : w < x.first.toNat
  ·exact .inl h
  ·refine .inr ?_;unfold iI;rw [show (x.first + ((w - x.first.toNat : Nat) : Int)).toNat = w by omega];exact hw
 intro k
 induction k using Nat.strongRecOn with
 | ind k ih =>
  intro w hk hw;have hwv := Oy hw;have hl := live w hw;have hnum : oW x.first.toNat (iI x) w < (jh x s).vars := by
   unfold oW;split
   ·omega
   ·rcases hl with hl | hl
    ·omega
    ·have := y5 (use := iI x) (j := w - x.first.toNat) (k := x.ands.length) (by omega) hl;omega
  rcases TQ hx hw with ⟨a, ha, hwa⟩ | ⟨j, hj, hjl, hop⟩
  ·have hc : bJ s.2 a = reA x.first.toNat (iI x) a := lJ (by rw [hwa]; exact e2 w (by omega) hl)
   refine CQ (a := bJ s.2 a) ?_ ?_ hnum
   ·show bJ s.2 a ∈ x.next.map (bJ s.2) ++ x.outs.map (bJ s.2)
    rw [← List.map_append];exact List.mem_map_of_mem ha
   ·rw [hc]; unfold reA; rw [hwa]; omega
  ·obtain ⟨o1, o2, o3, o4⟩ := fA i5 hj;have huj : iI x j = true := hjl;have ihj := ih (x.vars - (x.first.toNat + j)) (by rcases hop with h | h <;> omega) (x.first.toNat + j) (by omega) (by rw [show x.first.toNat + j = (x.first + (j : Int)).toNat by omega]; exact hjl);have hnj : oW x.first.toNat (iI x) (x.first.toNat + j) = x.first.toNat + nV (iI x) j := by unfold oW;rw [if_neg (by omega), Nat.add_sub_cancel_left]
   rw [hnj] at ihj;have hrj := y5 hj huj;have hri : nV (iI x) j < (jh x s).ands.length := by rw [yl]; exact hrj
   have hgt : (jh x s).ands[nV (iI x) j] = (reA x.first.toNat (iI x) x.ands[j].1, reA x.first.toNat (iI x) x.ands[j].2) := by have := Ox (g := x) huj hj;rw [← e1, aO hj] at this;exact (List.getElem?_eq_some_iff.1 this).2
   have hle := xG hy hri (by rw [yf, show (x.first + ((nV (iI x) j : Nat) : Int)).toNat = x.first.toNat + nV (iI x) j by omega]; exact ihj);rw [hgt] at hle;dsimp only at hle;rcases hop with h | h
   ·have := hle.1;unfold reA at this;rw [h, show ((2 * (oW x.first.toNat (iI x) w : Int) + x.ands[j].1 % 2) / 2).toNat = oW x.first.toNat (iI x) w by omega] at this;exact this
   ·have := hle.2;unfold reA at this;rw [h, show ((2 * (oW x.first.toNat (iI x) w : Int) + x.ands[j].2 % 2) / 2).toNat = oW x.first.toNat (iI x) w by omega] at this;exact this
theorem Fh {x : Gr} (hx : x.chk = 0) (hga : CJ x.ands) : qU (jh x (bC x (iI x) x.ands.length)) = true := by
 obtain ⟨_, i0, i1, i2, i3, i4, i5⟩ := bQ hx;have hf := bV i0;have hv := nP i0;obtain ⟨e1, e2⟩ := qV hx hga (qW hx) x.ands.length (Nat.le_refl _);have hgd := nO i0 (iI x) x.ands.length;have hled := TR hx hga;obtain ⟨s, hs⟩ : ∃ s, s = bC x (iI x) x.ands.length := ⟨_, rfl⟩;rw [← hs] at e1 hgd hled ⊢;have yl : s.1.length = nV (iI x) x.ands.length := by rw [e1, qj]
 have yf : (jh x s).first = x.first := by simp [jh, Gr.first]
 unfold qU;rw [Bool.not_eq_true', List.any_eq_false];intro r hr;rw [List.mem_range] at hr;have hr : r < s.1.length := hr;obtain ⟨a1, a2, a3⟩ := hgd.1 _ (List.getElem_mem hr);obtain ⟨i, hi, hui, hri⟩ := CS (show r < nV (iI x) x.ands.length by rw [← yl]; exact hr);have hl := hled (x.vars - (x.first.toNat + i)) (x.first.toNat + i) (by omega) (by rw [show x.first.toNat + i = (x.first + (i : Int)).toNat by omega]; exact hui);have hn : oW x.first.toNat (iI x) (x.first.toNat + i) = (x.first + (r : Int)).toNat := by
  unfold oW;rw [if_neg (by omega), Nat.add_sub_cancel_left, hri];omega
 rw [hn] at hl;unfold Xk;rw [show (jh x s).ands = s.1 from rfl, yf, aO hr, hl];have d1 : decide (s.1[r].1 ≤ s.1[r].2) = false := by simp; omega
 have d2 : decide (s.1[r].2 ≤ 1) = false := by simp; omega
 have d3 : (s.1[r].1 / 2 == s.1[r].2 / 2) = false := by simpa using a3
 have d5 : ((s.1.take r).any (· == s.1[r])) = false := by
  rw [List.any_eq_false];intro p hp hpe;have hpe : p = s.1[r] := by simpa using hpe
  obtain ⟨j, hj, rfl⟩ := List.mem_iff_getElem.1 hp;rw [List.length_take] at hj;rw [List.getElem_take] at hpe;have := (List.getElem_inj hgd.2).1 hpe;omega
 dsimp only;rw [d1, d2, d3, d5];decide
theorem CU {g : Gr} (hg : g.chk = 0) : qU (uS g) = true :=
 Fh (iE hg _) (nO (bQ hg).i0 _ _)
def rY (f : Int) (u : Bool) (s : List Pr × Cl) (p : Pr) : List Pr × Cl :=
 (if u then s.1 ++ [(bJ (s.2 ++ [2 * (f + (s.1.length : Int))]) p.1, bJ (s.2 ++ [2 * (f + (s.1.length : Int))]) p.2)] else s.1, s.2 ++ [2 * (f + (s.1.length : Int))])
def kE (g : Gr) (use : Nat → Bool) : Nat → List Pr × Cl
 | 0 => ([], gG g.first.toNat)
 | i + 1 => rY g.first (use i) (kE g use i) (g.ands.getD i (0, 0))
theorem qX {g : Gr} (hg : g.chk = 0) (use : Nat → Bool) : ∀ i, i ≤ g.ands.length →
 (kE g use i).1 = rX g use i ∧ (kE g use i).2.length = g.first.toNat + i ∧ ∀ v, v < g.first.toNat + i → (kE g use i).2.getD v 0 = 2 * (oW g.first.toNat use v : Int) := by
 obtain ⟨_, i0, i1, i2, i3, i4, i5⟩ := bQ hg;have hf := bV i0;intro i
 induction i with
 | zero =>
  intro _;refine ⟨rfl, by simp [kE, eF], fun v hv => ?_⟩;have hvl : v < (gG g.first.toNat).length := by rw [eF]; omega
  show (gG g.first.toNat).getD v 0 = _;rw [aO hvl];unfold oW;rw [if_pos (by omega)];simp [gG]
 | succ i ih =>
  intro hi;have hlt : i < g.ands.length := by omega
  obtain ⟨a1, a2, a3⟩ := ih (by omega);obtain ⟨o1, o2, o3, o4⟩ := fA i5 hlt;obtain ⟨A, C, hAC⟩ : ∃ A C, kE g use i = (A, C) := ⟨_, _, rfl⟩;have hst : kE g use (i + 1) = rY g.first (use i) (A, C) g.ands[i] := by
   show rY g.first (use i) (kE g use i) (g.ands.getD i (0, 0)) = _
   rw [hAC, aO hlt]
  rw [hAC] at a1 a2 a3;dsimp only at a1 a2 a3;have hn : oW g.first.toNat use (g.first.toNat + i) = g.first.toNat + nV use i := by
   unfold oW;rw [if_neg (by omega), Nat.add_sub_cancel_left]
  have hal : A.length = nV use i := by rw [a1, qj]
  have hC : ∀ v, v < g.first.toNat + (i + 1) → (C ++ [2 * (g.first + (A.length : Int))]).getD v 0 = 2 * (oW g.first.toNat use v : Int) := by
   intro v hv;by_cases hvi : v < g.first.toNat + i
   ·rw [List.getD_eq_getElem?_getD, List.getElem?_append_left (by omega), ← List.getD_eq_getElem?_getD];exact a3 v hvi
   ·have hvi : v = g.first.toNat + i := by omega
    rw [List.getD_eq_getElem?_getD, List.getElem?_append_right (by omega), show v - C.length = 0 by omega];show 2 * (g.first + (A.length : Int)) = _;rw [hvi, hn, hal];omega
  rw [hst];refine ⟨?_, by simp only [rY, List.length_append, List.length_singleton]; omega, hC⟩;unfold rY;dsimp only;have c1 : bJ (C ++ [2 * (g.first + (A.length : Int))]) g.ands[i].1 = reA g.first.toNat use g.ands[i].1 := lJ (hC _ (by omega))
  have c2 : bJ (C ++ [2 * (g.first + (A.length : Int))]) g.ands[i].2 = reA g.first.toNat use g.ands[i].2 := lJ (hC _ (by omega))
  rw [c1, c2];unfold rX;rw [List.range_succ, List.filter_append, List.map_append];cases hui : use i with
  | false => rw [if_neg (by decide), a1]; unfold rX; simp [hui]
  | true => rw [if_pos rfl, a1]; unfold rX; simp [hui, List.getElem?_eq_getElem hlt]
theorem TS {x : Gr} (hx : x.chk = 0) (hga : CJ x.ands) : jh x (kE x (iI x) x.ands.length) = jh x (bC x (iI x) x.ands.length) := by
 obtain ⟨_, i0, i1, i2, i3, i4, i5⟩ := bQ hx;obtain ⟨r1, r2, r3, r4⟩ := cO i4;have hf := bV i0;have hv := nP i0;obtain ⟨e1, e2⟩ := qV hx hga (qW hx) x.ands.length (Nat.le_refl _);obtain ⟨d1, d2, d3⟩ := qX hx (iI x) x.ands.length (Nat.le_refl _);have wa : x.all = 2 * (x.first + x.ands.length) := rfl;have key : ∀ a ∈ x.next ++ x.outs, bJ (kE x (iI x) x.ands.length).2 a = bJ (bC x (iI x) x.ands.length).2 a := fun a ha => by
  have hb : 0 ≤ a ∧ a < x.all := by
   rcases List.mem_append.1 ha with h | h
   ·exact r3 a h
   ·exact r4 a h
  have hl : Rq x.first.toNat (iI x) (a / 2).toNat := by
   by_cases h : (a / 2).toNat < x.first.toNat
   ·exact .inl h
   ·refine .inr ?_;unfold iI;rw [show (x.first + (((a / 2).toNat - x.first.toNat : Nat) : Int)).toNat = (a / 2).toNat by omega];exact CQ ha rfl (by omega)
  rw [lJ (d3 _ (by omega)), lJ (e2 _ (by omega) hl)]
 unfold jh;rw [d1, e1, List.map_congr_left fun a ha => key a (List.mem_append_left _ ha), List.map_congr_left fun a ha => key a (List.mem_append_right _ ha)]
theorem KD {g : Gr} (hg : g.chk = 0) : uS g = jh (jh g (bC g (fun _ => true) g.ands.length)) (kE (jh g (bC g (fun _ => true) g.ands.length)) (iI (jh g (bC g (fun _ => true) g.ands.length))) (jh g (bC g (fun _ => true) g.ands.length)).ands.length) :=
 (TS (iE hg _) (nO (bQ hg).i0 _ _)).symm
def lnG : Cl → S
 | [] => [10]
 | n :: l => 32 :: (Lib.itoa n ++ lnG l)
def lnT : Cl → S
 | [] => [10]
 | n :: l => Lib.itoa n ++ lnG l
def nmT (c : UInt8) : Nat → List S → S
 | _, [] => []
 | i, s :: l => c :: (Lib.itoa i ++ 32 :: (s ++ 10 :: nmT c (i + 1) l))
def ng (m : Mo) : S := nmT 105 0 m.ins ++ (nmT 108 0 m.lat ++ nmT 111 0 m.out)
def Oz (g : Gr) (i : Nat) : Cl := 2 * (1 + g.ins + (i : Int)) :: g.next.getD i 0 :: (if g.init.getD i 0 = 0 then [] else if g.init.getD i 0 = 1 then [1] else [2 * (1 + g.ins + (i : Int))])
def wP (g : Gr) : Cl := [g.first - 1 + (g.ands.length : Int), g.ins, (g.next.length : Int), (g.outs.length : Int), (g.ands.length : Int)]
def Xl (n : Nat) : S := (List.range n).flatMap fun i : Nat => lnT [2 * ((i : Int) + 1)]
def KE (g : Gr) (n : Nat) : S := (List.range n).flatMap fun i : Nat => lnT (Oz g i)
def KF (l : Cl) (n : Nat) : S := (List.range n).flatMap fun i : Nat => lnT [l.getD i 0]
def KG (g : Gr) (n : Nat) : S := (List.range n).flatMap fun i : Nat => lnT [2 * (g.first + (i : Int)), (g.ands.getD i (0, 0)).1, (g.ands.getD i (0, 0)).2]
def WI (g : Gr) : S := [97, 97, 103, 32] ++ (lnT (wP g) ++ (Xl g.ins.toNat ++ (KE g g.next.length ++ (KF g.outs g.outs.length ++ KG g g.ands.length))))
def TT (m : Mo) : S := WI m.g ++ ng m
def qp (m : Mo) : S × Int := if m.chk = 0 then (TT m.norm, 0) else ([], m.chk)
abbrev RE (α : Type) := Except (Nat × Int) α
def uZ (s : S) (a : Nat) : RE (Int × Nat) := if (Eg s a).2.2 = 0 then .ok ((Eg s a).1, (Eg s a).2.1.toNat) else .error (a, 3)
def y8 (s : S) (c : UInt8) (a : Nat) : RE Nat := if yU s a c = true then .ok (a + 1) else .error (a, 2)
def rZ (s : S) : Nat → Nat → Cl → RE (Cl × Nat)
 | 0, a, l => .ok (l, a)
 | k + 1, a, l => if yU s a 32 = true then (match uZ s (a + 1) with
  | .ok (n, b) => rZ s k b (l ++ [n])
  | .error e => .error e) else .ok (l, a)
def hd9 (l : Cl) : Cl := l ++ List.replicate (9 - l.length) 0
def OA (h : Cl) : Bool := decide (h.getD 0 0 ≤ 4000) && decide (h.getD 1 0 + h.getD 2 0 + h.getD 4 0 ≤ h.getD 0 0) && decide (h.getD 3 0 + h.getD 5 0 + h.getD 6 0 ≤ 4000)
def wQ (s magic : S) : RE (Cl × Nat) :=
 if magic.isPrefixOf s = true then (match rZ s 9 magic.length [] with
  | .ok (l, a) => if 5 ≤ l.length then (match y8 s 10 a with
   | .ok b => if (hd9 l).getD 7 0 = 0 ∧ (hd9 l).getD 8 0 = 0 then if OA (hd9 l) = true then .ok (hd9 l, b) else .error (0, 8) else .error (0, 9)
   | .error e => .error e) else .error (a, 2)
  | .error e => .error e) else .error (0, 2)
abbrev Us := Int × Nat
structure An where
 lit : Int
 pos : Nat
 p : Us
 q : Us
structure Fi where
 a : Nat
 D : Cl
 ins : Cl
 lats : Cl
 next : List Us
 init : Cl
 outs : List Us
 ands : List An
def Lh (s : S) (mo : Int) (x : Fi) : RE (Int × Fi) :=
 match uZ s x.a with
 | .error e => .error e
 | .ok (n, b) => if n % 2 = 0 ∧ 2 ≤ n ∧ n ≤ mo then if n / 2 ∈ x.D then .error (x.a, 5) else .ok (n, { x with a := b, D := x.D ++ [n / 2] }) else .error (x.a, 1)
def Eh (s : S) (mo : Int) (x : Fi) : RE (Us × Fi) :=
 match uZ s x.a with
 | .error e => .error e
 | .ok (n, b) => if n ≤ mo then .ok ((n, x.a), { x with a := b }) else .error (x.a, 1)
def gQ (s : S) (c : UInt8) (x : Fi) : RE Fi := if yU s x.a c = true then .ok { x with a := x.a + 1 } else .error (x.a, 2)
def iZ (s : S) (mo : Int) (x : Fi) : RE Fi :=
 match Lh s mo x with
 | .error e => .error e
 | .ok (n, y) => gQ s 10 { y with ins := y.ins ++ [n] }
def ve (s : S) (lit : Int) (x : Fi) : RE (Int × Fi) :=
 if yU s x.a 32 = true then (match uZ s (x.a + 1) with
  | .error e => .error e
  | .ok (n, b) => if n < 2 ∨ n = lit then .ok (n, { x with a := b }) else .error (x.a + 1, 1)) else .ok (0, x)
def ja (s : S) (mo : Int) (x : Fi) : RE Fi :=
 match Lh s mo x with
 | .error e => .error e
 | .ok (lit, y) => match gQ s 32 y with
  | .error e => .error e
  | .ok y => match Eh s mo y with
   | .error e => .error e
   | .ok (u, y) => match ve s lit { y with next := y.next ++ [u] } with
    | .error e => .error e
    | .ok (n, y) => gQ s 10 { y with lats := y.lats ++ [lit], init := y.init ++ [min n 2] }
def fM (s : S) (mo : Int) (x : Fi) : RE Fi :=
 match Eh s mo x with
 | .error e => .error e
 | .ok (u, y) => gQ s 10 { y with outs := y.outs ++ [u] }
def oZ (s : S) (mo : Int) (x : Fi) : RE Fi :=
 match Lh s mo x with
 | .error e => .error e
 | .ok (lit, y) => match gQ s 32 y with
  | .error e => .error e
  | .ok y => match Eh s mo y with
   | .error e => .error e
   | .ok (p, y) => match gQ s 32 y with
    | .error e => .error e
    | .ok y => match Eh s mo y with
     | .error e => .error e
     | .ok (q, y) => match gQ s 10 y with
      | .error e => .error e
      | .ok y => .ok { y with ands := y.ands ++ [⟨lit, x.a, p, q⟩] }
def kV (f : Fi → RE Fi) : Nat → Fi → RE Fi
 | 0, x => .ok x
 | n + 1, x => match f x with
  | .error e => .error e
  | .ok y => kV f n y
def U8 (c : UInt8) : Option Nat := [(105 : UInt8), 108, 111, 98, 99].findIdx? (· == c)
def WJ (s : S) (a : Nat) : Bool := ([99, 10] : S).isPrefixOf (s.drop a) || s.drop a == [99]
def vg (s : S) (L : List (List S)) (a : Nat) : RE (List (List S) × Nat) :=
 match U8 (s.getD a 0) with
 | none => .error (a, 2)
 | some k => match uZ s (a + 1) with
  | .error e => .error e
  | .ok (n, b) => match y8 s 32 b with
   | .error e => .error e
   | .ok b =>
    if b + ((s.drop b).takeWhile (· != 10)).length < s.length then
     if n < ((L.getD k []).length : Int) then
      if jC ((s.drop b).takeWhile (· != 10)) = true then
       if (L.getD k []).getD n.toNat [] = [] then .ok (L.set k ((L.getD k []).set n.toNat ((s.drop b).takeWhile (· != 10))), b + ((s.drop b).takeWhile (· != 10)).length + 1) else .error (a, 5)
      else .error (b, 4)
     else .error (a + 1, 1)
    else .error (s.length, 2)
def Ei (s : S) : Nat → List (List S) → Nat → RE (List (List S))
 | 0, L, _ => .ok L
 | k + 1, L, a => if a < s.length ∧ WJ s a = false then (match vg s L a with
  | .error e => .error e
  | .ok (L, b) => Ei s k L b) else .ok L
def lL (c : UInt8) : Nat → List S → List S
 | _, [] => []
 | i, x :: l => (if x = [] then c :: Lib.itoa i else x) :: lL c (i + 1) l
def KH (L : List (List S)) : List (List S) := [lL 105 0 (L.getD 0 []), lL 108 0 (L.getD 1 []), lL 111 0 (L.getD 2 []), lL 98 0 (L.getD 3 []), lL 99 0 (L.getD 4 [])]
def wR (many : Cl) : List (List S) := many.map fun n => List.replicate (min (max n 0) 4000).toNat []
def Ej (s : S) (many : Cl) (a : Nat) : RE (List (List S)) :=
 match Ei s (s.length + 1) (wR many) a with
 | .error e => .error e
 | .ok L => .ok (KH L)
def fO (D : Cl) : List Us → Option (Nat × Int)
 | [] => none
 | u :: l => if u.1 / 2 ∈ D then fO D l else some (u.2, 6)
def An.nil : An := ⟨0, 0, (0, 0), (0, 0)⟩
def iJ (A : List An) : Nat → Nat → Cl → List Nat → List Nat × Cl
 | 0, _, left, out => (out, left)
 | k + 1, i, left, out => if i < A.length then
  if (A.getD i .nil).lit / 2 ∈ left ∧ (A.getD i .nil).p.1 / 2 ∉ left ∧ (A.getD i .nil).q.1 / 2 ∉ left then iJ A k 0 (left.erase ((A.getD i .nil).lit / 2)) (out ++ [i])
  else iJ A k (i + 1) left out
  else (out, left)
def toI (D V : Cl) (n : Int) : Int := V.getD (D.idxOf n) 0
def l7 (D V : Cl) (u : Us) : Int := 2 * toI D V (u.1 / 2) + u.1 % 2
def KI (D : Cl) : Cl → Int → Cl → Cl
 | V, _, [] => V
 | V, k, l :: ls => KI D (V.set (D.idxOf (l / 2)) k) (k + 1) ls
def Fi.vals (x : Fi) (o : List Nat) : Cl :=
 KI x.D (KI x.D (x.D.map fun _ => 0) 1 (x.ins ++ x.lats)) (1 + (x.ins.length : Int) + x.lats.length) (o.map fun k => (x.ands.getD k .nil).lit)
def lW (x : Fi) (o : List Nat) : Gr :=
 ⟨x.ins.length, x.next.map (l7 x.D (x.vals o)), x.init, o.map fun k => (l7 x.D (x.vals o) (x.ands.getD k .nil).p, l7 x.D (x.vals o) (x.ands.getD k .nil).q), x.outs.map (l7 x.D (x.vals o))⟩
def Fi.start (a : Nat) : Fi := ⟨a, [0], [], [], [], [], [], []⟩
def CV (s : S) (h : Cl) (a : Nat) : RE Fi :=
 match kV (iZ s (2 * h.getD 0 0 + 1)) (h.getD 1 0).toNat (.start a) with
 | .error e => .error e
 | .ok x => match kV (ja s (2 * h.getD 0 0 + 1)) (h.getD 2 0).toNat x with
  | .error e => .error e
  | .ok x => match kV (fM s (2 * h.getD 0 0 + 1)) (h.getD 3 0 + h.getD 5 0 + h.getD 6 0).toNat x with
   | .error e => .error e
   | .ok x => kV (oZ s (2 * h.getD 0 0 + 1)) (h.getD 4 0).toNat x
def Fi.left (x : Fi) : Cl := x.ands.map fun a => a.lit / 2
def Fi.uses (x : Fi) : List Us := x.ands.flatMap fun a => [a.p, a.q]
def y9 (x : Fi) (N : List (List S)) : RE Mo :=
 match fO x.D x.next with
 | some e => .error e
 | none => match fO x.D x.outs with
  | some e => .error e
  | none => match fO x.D x.uses with
   | some e => .error e
   | none => match iJ x.ands ((x.ands.length + 1) * (x.ands.length + 1)) 0 x.left [] with
    | (o, left) => match x.ands.find? (fun a => decide (a.lit / 2 ∈ left)) with
     | some a => .error (a.pos, 7)
     | none => if Mo.chk ⟨lW x o, N.getD 0 [], N.getD 1 [], N.getD 2 [] ++ (N.getD 3 [] ++ N.getD 4 [])⟩ = 0 then .ok ⟨lW x o, N.getD 0 [], N.getD 1 [], N.getD 2 [] ++ (N.getD 3 [] ++ N.getD 4 [])⟩ else .error (0, Mo.chk ⟨lW x o, N.getD 0 [], N.getD 1 [], N.getD 2 [] ++ (N.getD 3 [] ++ N.getD 4 [])⟩)
def jT (s : S) : RE Mo :=
 match wQ s [97, 97, 103] with
 | .error e => .error e
 | .ok (h, a) => match CV s h a with
  | .error e => .error e
  | .ok x => match Ej s [h.getD 1 0, h.getD 2 0, h.getD 3 0, h.getD 5 0, h.getD 6 0] x.a with
   | .error e => .error e
   | .ok N => y9 x N
theorem Aa {D : Cl} : ∀ {ls V : Cl} {k : Int}, (KI D V k ls).length = V.length
 | [], V, k => rfl
 | l :: ls, V, k => by unfold KI; rw [Aa, List.length_set]
theorem rH {m : Mo} (h : m.chk = 0) : ∀ x, x ∈ m.ins ∨ x ∈ m.lat ∨ x ∈ m.out → jC x = true := by
 have hn := (fK h).2.2.1;unfold Mo.names at hn;simp only [Bool.or_eq_false_iff, List.any_eq_false, iG, Bool.not_eq_true', Bool.not_eq_true, Bool.not_eq_false', Bool.not_eq_false] at hn;rintro x (hx | hx | hx)
 ·exact hn.1.1 x hx
 ·exact hn.1.2 x hx
 ·exact hn.2 x hx
abbrev rdT (s : S) (a : Nat) (T : List V) : O := .cells (.str s :: vi a :: T)
abbrev gU (a e : Int) : V := .iface 153 (.agg [vi a, vi e])
theorem aP {h : H} {R : AEnd → H → (Nat → Bool) → Prop} (b : Bool) (a e : Int)
 (h1 : b = true → R (.ret (.tup [])) h (fun _ => false)) (h2 : b = false → R (.pan (gU a e)) h (fun _ => false)) : ah TE 60 [.bool b, vi a, vi e] h R := by
 refine ay Tryz.func60 rfl (by simp [nts]) (vm ?_);cases b with
 | true => simp only [wq.1, seval, Tryz.results60];exact h1 rfl
 | false => simp only [wq.1, seval, Tryz.results60];exact ⟨nofun, h2 rfl⟩
theorem vk {k a : Nat} {s : S} {T : List V} {h : H} {R : AEnd → H → (Nat → Bool) → Prop} (c : UInt8) (hk : h[k]? = some (rdT s a T))
 (hr : R (.ret (.bool (yU s a c))) h (fun _ => false)) : ah TE 100 [.lp k 0, vb c] h R := by
 refine ay Tryz.func100 rfl (by simp [nts]) (vm ?_);unfold yU at hr;by_cases hlt : a < s.length
 ·have e1 : decide ((a : Int) < (s.length : Int)) = true := by simpa using hlt
  have e2 : s.getD a 0 = s[a] := aO hlt;rw [List.getElem?_eq_getElem hlt] at hr;simp only [wq.1, seval, Tryz.results100, hk, e1, e2, Y5];refine ⟨by decide +kernel, ⟨by omega, by omega⟩, hr⟩
 ·have e1 : decide ((a : Int) < (s.length : Int)) = false := by simpa using hlt
  rw [List.getElem?_eq_none (by omega)] at hr;simp only [wq.1, seval, Tryz.results100, hk, e1];exact ⟨by decide +kernel, hr⟩
theorem iF {k a : Nat} {s : S} {T : List V} {h : H} {R : AEnd → H → (Nat → Bool) → Prop} (hs : s.length ≤ 100000) (hk : h[k]? = some (rdT s a T))
 (h1 : ∀ n b, uZ s a = .ok (n, b) → R (.ret (vi n)) (h.set k (rdT s b T)) (fun _ => false)) (h2 : uZ s a = .error (a, 3) → R (.pan (gU a 3)) h (fun _ => false)) : ah TE 101 [.lp k 0] h R := by
 have hG := Ym s a hs;have hend : 0 ≤ (Eg s a).2.1 := by
  unfold Eg;split
  ·exact Int.natCast_nonneg _
  ·split
   ·show 0 ≤ (a : Int) + _;omega
   ·exact Int.natCast_nonneg _
 obtain ⟨r, hr⟩ : ∃ r, r = Eg s a := ⟨_, rfl⟩;unfold uZ at h1 h2;rw [← hr] at hG h1 h2 hend;obtain ⟨b, hb⟩ : ∃ b : Nat, r.2.1 = b := ⟨r.2.1.toNat, by omega⟩;refine ay Tryz.func101 rfl (by simp [nts]) (vm ?_);simp only [wq.1, seval, Tryz.results101, hk];refine ⟨by decide +kernel, tZ.mk hG rfl rfl ?_⟩;simp only [wq.1, seval, hk, hb];by_cases he : r.2.2 = 0
 ·rw [if_pos he] at h1;have hd : (r.2.2 == 0) = true := by simpa using he
  simp only [wq.1, hd];refine aP true a 3 (fun _ => ?_) (fun h => by cases h);have := h1 _ _ rfl;rw [hb, Int.toNat_natCast] at this;simp only [wq.1, seval, hk];exact this
 ·rw [if_neg he] at h2;have hd : (r.2.2 == 0) = false := by simpa using he
  simp only [wq.1, hd];refine aP false a 3 (fun h => by cases h) (fun _ => ?_);simp only [wq.1, bI];exact h2 rfl
def U9 : Plan := .take 0 <| .take 1 <| .take 3 <| .take 4 <| .take 5 <| .alt 2 (.one 6 <| .one 7 <| .fin) (.one 6 (.one 2 <| .one 7 <| .fin))
theorem vw {k a : Nat} {s : S} {T : List V} {h : H} {R : AEnd → H → (Nat → Bool) → Prop} (c : UInt8) (ha : s.length ≤ 1000000000) (hk : h[k]? = some (rdT s a T))
 (h1 : yU s a c = true → R (.ret (.tup [])) (h.set k (rdT s (a + 1) T)) (fun _ => false)) (h2 : yU s a c = false → R (.pan (gU a 2)) h (fun _ => false)) : ah TE 143 [.lp k 0, vb c] h R := by
 have hM : maxLen = 9223372036854775807 := rfl;refine ay Tryz.func143 rfl (by simp [nts]) ?_;refine ag (iT mixed U9 (fun f' h' => yU s a c = true ∧ f'.t 0 = .lp k 0 ∧ f'.d = [] ∧ (∀ j, f'.k j = false) ∧ h' = h) [] (fun v d kk t h' => d = [] ∧ (∀ j, kk j = false) ∧ yU s a c = false ∧ v = gU a 2 ∧ h' = h) (by decide +kernel) (by decide +kernel) ?_ ?_ ?_)
 ·simp only [wq.1, seval, U9, hk]
  repeat' apply And.intro
  all_goals
   refine vk c hk ?_;simp only [wq.1, seval, hk];refine aP _ _ 2 (fun hb => ?_) (fun hb => ?_)
   ·simp only [wq.1, seval, iU];exact hb
   ·simp only [wq.1, bI, mQ];exact hb
 ·rintro f h' ⟨hb, h0, hd, hkf, rfl⟩;have hl := yV hb;have hw := ak (show a < maxLen by omega);refine vm ?_;simp only [wq.1, seval, Tryz.results143, h0, hd, hk, hw];rw [show f.k = fun _ => false from funext hkf];exact h1 hb
 ·rintro v f h' ⟨hd, hkf, hb, rfl, rfl⟩;simp only [XE.seq, bG];simp only [wq.1, hd];rw [show f.k = fun _ => false from funext hkf];exact h2 hb
theorem kR {k a : Nat} {s : S} {T : List V} {h : H} {R : AEnd → H → (Nat → Bool) → Prop} (ha : s.length ≤ 1000000000) (hk : h[k]? = some (rdT s a T))
 (h1 : yU s a 10 = true → R (.ret (.tup [])) (h.set k (rdT s (a + 1) T)) (fun _ => false)) (h2 : yU s a 10 = false → R (.pan (gU a 2)) h (fun _ => false)) : ah TE 102 [.lp k 0] h R := by
 refine ay Tryz.func102 rfl (by simp [nts]) (vm ?_);simp only [wq.1, seval, Tryz.results102];refine vw 10 ha hk (fun hb => ?_) (fun hb => ?_)
 ·simp only [wq.1];exact h1 hb
 ·simp only [wq.1, bI];exact h2 hb
theorem jU {k a : Nat} {s : S} {T : List V} {h : H} {R : AEnd → H → (Nat → Bool) → Prop} (ha : s.length ≤ 1000000000) (hk : h[k]? = some (rdT s a T))
 (h1 : yU s a 32 = true → R (.ret (.tup [])) (h.set k (rdT s (a + 1) T)) (fun _ => false)) (h2 : yU s a 32 = false → R (.pan (gU a 2)) h (fun _ => false)) : ah TE 104 [.lp k 0] h R := by
 refine ay Tryz.func104 rfl (by simp [nts]) (vm ?_);simp only [wq.1, seval, Tryz.results104];refine vw 32 ha hk (fun hb => ?_) (fun hb => ?_)
 ·simp only [wq.1];exact h1 hb
 ·simp only [wq.1, bI];exact h2 hb
theorem rJ (a : Int) : ∀ (ks : Cl), iH (.int .i64) (vi a) (ks.map vi) = some (ks.findIdx? (· == a))
 | [] => rfl
 | k :: ks => by
  simp only [List.map_cons, iH, keq, List.findIdx?_cons];by_cases h : k = a
  ·subst h; simp
  ·have h1 : (a == k) = false := by simpa using fun h' => h h'.symm
   have h2 : (k == a) = false := by simpa using h
   have h3 : (if True then some (a == k) else none) = some false := by rw [if_pos trivial, h1]
   simp only [h3, rJ a ks, h2];cases ks.findIdx? (· == a) <;> rfl
theorem Yz {a : Int} (h0 : 0 ≤ a) (h1 : a ≤ 1000000000000) : IntKind.i64.wrap ((BitVec.ofInt IntKind.i64.bits a &&& BitVec.ofInt IntKind.i64.bits 1).toNat : Int) = a % 2 := by
 obtain ⟨n, rfl⟩ : ∃ n : Nat, a = n := ⟨a.toNat, by omega⟩;have e1 : (BitVec.ofInt IntKind.i64.bits (n : Int) &&& BitVec.ofInt IntKind.i64.bits 1).toNat = n % 2 := by
  show (BitVec.ofInt 64 (n : Int) &&& BitVec.ofInt 64 1).toNat = n % 2;rw [BitVec.toNat_and];have : (BitVec.ofInt 64 (n : Int)).toNat = n := by simp; omega
  rw [this];show n &&& 1 = n % 2;exact Nat.and_one_is_mod n
 rw [e1, bu (by omega) (by omega)];omega
abbrev usV (l : List Us) : List V := l.flatMap fun u => [vi u.1, vi u.2]
abbrev anV (l : List An) : List V := l.flatMap fun a => [vi a.lit, vi a.pos, vi a.p.1, vi a.p.2, vi a.q.1, vi a.q.2]
abbrev fiT (x : Fi) (mo : Int) : List V := [vi mo, .lm 2, .ls 4 1 0 x.ins.length x.ins.length, .ls 5 1 0 x.lats.length x.lats.length, .ls 6 2 0 x.next.length x.next.length, .ls 7 1 0 x.init.length x.init.length, .ls 8 2 0 x.outs.length x.outs.length, .ls 9 6 0 x.ands.length x.ands.length]
abbrev hF (b0 b1 : O) (s : S) (mo : Int) (x : Fi) (W : Cl) (Y : H) : H :=
 b0 :: b1 :: .map (x.D.map vi) (W.map vi) :: rdT s x.a (fiT x mo) :: .cells (x.ins.map vi) :: .cells (x.lats.map vi) :: .cells (usV x.next) :: .cells (x.init.map vi) :: .cells (usV x.outs) :: .cells (anV x.ands) :: Y
def aS (x : Fi) : Cl := x.D.map fun _ => 0
theorem o5 {s : S} {a b : Nat} {n : Int} (h : uZ s a = .ok (n, b)) : 0 ≤ n ∧ n ≤ 2147483647 := by
 unfold uZ at h;split at h
 ·rename_i h1;simp only [Except.ok.injEq, Prod.mk.injEq] at h;rw [← h.1]
  revert h1
  unfold Eg;split
  ·intro h1; cases h1
  ·split
   ·rename_i h2;intro _;have := h2.2.1;show 0 ≤ ((qc 0 ((s.drop (a : Int).toNat).takeWhile dW) : Nat) : Int) ∧ ((qc 0 ((s.drop (a : Int).toNat).takeWhile dW) : Nat) : Int) ≤ 2147483647;omega
   ·intro h1; cases h1
 ·cases h
theorem vz {D : Cl} {a : Int} : (D.findIdx? (· == a)).isSome = decide (a ∈ D) := by rw [Bool.eq_iff_iff, List.findIdx?_isSome];simp
theorem jV {b0 b1 : O} {s : S} {mo : Int} {x : Fi} {Y : H} (hs : s.length ≤ 100000) {R : AEnd → H → (Nat → Bool) → Prop}
 (h1 : ∀ n y, Lh s mo x = .ok (n, y) → R (.ret (vi n)) (hF b0 b1 s mo y (aS y) Y) (fun _ => false))
 (h2 : ∀ (w : Nat) (e : Int) (y : Fi), Lh s mo x = .error (w, e) → R (.pan (gU w e)) (hF b0 b1 s mo y (aS y) Y) (fun _ => false)) :
 ah TE 103 [.lp 3 0] (hF b0 b1 s mo x (aS x) Y) R := by
 have hM : maxLen = 9223372036854775807 := rfl;unfold Lh at h1 h2;refine ay Tryz.func103 rfl (by simp [nts]) ?_;refine ag (vm ?_);simp only [wq.1, Nat.reduceLT, Tryz.results103];refine ag (vm ?_);simp only [wq.1, seval];refine ag (vm ?_);simp only [wq.1, seval];refine iF (k := 3) (a := x.a) (s := s) (T := fiT x mo) hs rfl (fun n b hn => ?_) (fun hn => ?_)
 ·rw [hn] at h1 h2;dsimp only at h1 h2;obtain ⟨n0, n1⟩ := o5 hn;have ha := Yz n0 (show n ≤ 1000000000000 by omega);simp only [wq.1, seval];have hsh := Le n;have hfi := rJ (n / 2) x.D;refine ag (vm ?_);simp only [wq.1, seval, ha];refine aP _ _ 1 (fun hb => ?_) (fun hb => ?_)
  ·have hb' : n % 2 = 0 ∧ 2 ≤ n ∧ n ≤ mo := by simp only [Bool.and_eq_true, beq_iff_eq, decide_eq_true_eq] at hb;omega
   rw [if_pos hb'] at h1 h2;simp only [wq.1];cases hfx : x.D.findIdx? (· == n / 2) with
   | some i =>
    have hin : n / 2 ∈ x.D := by have := vz (D := x.D) (a := n / 2);rw [hfx] at this;simpa using this.symm
    rw [hfx] at hfi;rw [if_pos hin] at h2;refine ag (vm ?_);simp only [wq.1, seval, wz, hfi, K.keyOk, hsh];refine ag (vm ?_);simp only [wq.1, seval];refine aP false _ 5 (fun h => by cases h) (fun _ => ?_);simp only [wq.1, bI];simp only [XE.seq, bG];simp only [wq.1];exact h2 _ _ { x with a := b } rfl
   | none =>
    have hin : n / 2 ∉ x.D := by have := vz (D := x.D) (a := n / 2);rw [hfx] at this;simpa using this.symm
    rw [hfx] at hfi;rw [if_neg hin] at h1;refine ag (vm ?_);simp only [wq.1, seval, wz, hfi, K.keyOk, hsh];refine ag (vm ?_);simp only [wq.1, seval];refine aP true _ 5 (fun _ => ?_) (fun h => by cases h);simp only [wq.1];refine ag (vm ?_);simp only [wq.1, seval, Ld, hfi, K.keyOk, hsh];refine vm ?_;simp only [wq.1, seval];have hz : aS { x with a := b, D := x.D ++ [n / 2] } = aS x ++ [0] := by simp [aS]
    have := h1 _ _ rfl;rw [hz] at this;simp only [hF, List.map_append, List.map_cons, List.map_nil] at this;exact this
  ·have hb' : ¬ (n % 2 = 0 ∧ 2 ≤ n ∧ n ≤ mo) := by rintro ⟨c1, c2, c3⟩;simp [c1, c2, c3] at hb
   rw [if_neg hb'] at h2;simp only [wq.1, bI];simp only [XE.seq, bG];simp only [wq.1];exact h2 _ _ { x with a := b } rfl
 ·rw [hn] at h1 h2;dsimp only at h1 h2;simp only [wq.1, bI];simp only [XE.seq, bG];simp only [wq.1];exact h2 _ _ x rfl
theorem kS {b0 b1 : O} {s : S} {mo : Int} {x : Fi} {W : Cl} {Y : H} (hs : s.length ≤ 100000) {R : AEnd → H → (Nat → Bool) → Prop}
 (h1 : ∀ u y, Eh s mo x = .ok (u, y) → ∀ X, R (.ret (.agg [vi u.1, vi u.2])) (hF b0 b1 s mo y W (Y ++ X)) (fun _ => false))
 (h2 : ∀ (w : Nat) (e : Int) (y : Fi), Eh s mo x = .error (w, e) → ∀ X, R (.pan (gU w e)) (hF b0 b1 s mo y W (Y ++ X)) (fun _ => false)) :
 ah TE 105 [.lp 3 0] (hF b0 b1 s mo x W Y) R := by
 have hM : maxLen = 9223372036854775807 := rfl;unfold Eh at h1 h2;refine ay Tryz.func105 rfl (by simp [nts]) ?_;refine ag (vm ?_);simp only [wq.1, Nat.reduceLT, Tryz.results105];refine ag (vm ?_);simp only [wq.1, seval];refine ag (vm ?_);simp only [wq.1, seval];refine iF (k := 3) (a := x.a) (s := s) (T := fiT x mo) hs rfl (fun n b hn => ?_) (fun hn => ?_)
 ·rw [hn] at h1 h2;dsimp only at h1 h2;simp only [wq.1, seval];refine ag (vm ?_);simp only [wq.1, seval];refine aP _ _ 1 (fun hb => ?_) (fun hb => ?_)
  ·have hb' : n ≤ mo := by simpa using hb
   rw [if_pos hb'] at h1;simp only [wq.1];refine vm ?_;simp only [wq.1, seval, gE0, gS0];exact h1 _ _ rfl _
  ·have hb' : ¬ n ≤ mo := by simpa using hb
   rw [if_neg hb'] at h2;simp only [wq.1, bI];simp only [XE.seq, bG];simp only [wq.1];exact h2 _ _ { x with a := b } rfl _
 ·rw [hn] at h1 h2;dsimp only at h1 h2;simp only [wq.1, bI];simp only [XE.seq, bG];simp only [wq.1];exact h2 _ _ x rfl _
structure Qt (b0 b1 : O) (Y : H) : Prop where
 q0 : ∀ j, 4 ≤ j → j ≤ 9 → b0.drop (fun x => x == j) = b0
 q1 : ∀ j, 4 ≤ j → j ≤ 9 → b1.drop (fun x => x == j) = b1
 q2 : ∀ j, 4 ≤ j → j ≤ 9 → Y.map (O.drop (fun x => x == j)) = Y
def lZ : Nat → Bool := fun j => decide (4 ≤ j) && decide (j ≤ 9)
theorem qY {s : S} {mo : Int} {x y : Fi} {n : Int} (h : Lh s mo x = .ok (n, y)) : (∃ b, y = { x with a := b, D := x.D ++ [n / 2] }) ∧ 0 ≤ n ∧ n ≤ 2147483647 ∧ n % 2 = 0 ∧ 2 ≤ n ∧ n ≤ mo ∧ n / 2 ∉ x.D := by
 unfold Lh at h;cases hn : uZ s x.a with
 | error e => rw [hn] at h; cases h
 | ok v =>
  obtain ⟨m, b⟩ := v;rw [hn] at h;dsimp only at h;have := o5 hn;split at h
  ·rename_i hc;split at h
   ·cases h
   ·rename_i hd;simp only [Except.ok.injEq, Prod.mk.injEq] at h;obtain ⟨rfl, rfl⟩ := h;exact ⟨⟨b, rfl⟩, this.1, this.2, hc.1, hc.2.1, hc.2.2, hd⟩
  ·cases h
theorem lM {s : S} {mo : Int} {x y : Fi} {u : Us} (h : Eh s mo x = .ok (u, y)) : (∃ b, y = { x with a := b }) ∧ 0 ≤ u.1 ∧ u.1 ≤ 2147483647 ∧ u.1 ≤ mo ∧ u.2 = x.a := by
 unfold Eh at h;cases hn : uZ s x.a with
 | error e => rw [hn] at h; cases h
 | ok v =>
  obtain ⟨m, b⟩ := v;rw [hn] at h;dsimp only at h;have := o5 hn;split at h
  ·rename_i hc;simp only [Except.ok.injEq, Prod.mk.injEq] at h;obtain ⟨rfl, rfl⟩ := h;exact ⟨⟨b, rfl⟩, this.1, this.2, hc, rfl⟩
  ·cases h
theorem jf {p : Nat → Bool} : ∀ {l : List Us}, V.drops p (usV l) = usV l
 | [] => rfl
 | u :: l => by show V.drop p (vi u.1) :: V.drop p (vi u.2) :: V.drops p (usV l) = _;rw [jf]; rfl
theorem jW {p : Nat → Bool} : ∀ {l : List An}, V.drops p (anV l) = anV l
 | [] => rfl
 | a :: l => by show V.drop p (vi a.lit) :: V.drop p (vi a.pos) :: V.drop p (vi a.p.1) :: V.drop p (vi a.p.2) :: V.drop p (vi a.q.1) :: V.drop p (vi a.q.2) :: V.drops p (anV l) = _;rw [jW]; rfl
theorem xH : ∀ l : List Us, (usV l).length = l.length * 2
 | [] => rfl
 | a :: l => by show (usV l).length + 1 + 1 = _; rw [xH l, List.length_cons]; omega
theorem xI : ∀ l : List An, (anV l).length = l.length * 6
 | [] => rfl
 | a :: l => by show (anV l).length + 1 + 1 + 1 + 1 + 1 + 1 = _; rw [xI l, List.length_cons]; omega
def lY : Plan := .take 0 <| .take 1 <| .take 2 <| .take 3 <| .take 5 <| .alt 4 (.one 6 <| .one 7 <| .one 8 <| .take 9 <| .take 10 <| .one 11 <| .fin) (.one 6 (.alt 4 (.one 7 <| .one 8 <| .take 9 <| .take 10 <| .one 11 <| .fin) (.one 7 (.one 4 <| .one 8 <| .take 9 <| .take 10 <| .one 11 <| .fin))))
theorem Fj {b0 b1 : O} {s : S} {mo : Int} {x : Fi} {Y : H} (hq : Qt b0 b1 Y) (hs : s.length ≤ 100000) (hl : x.ins.length ≤ 4000) {R : AEnd → H → (Nat → Bool) → Prop}
 (h1 : ∀ y, iZ s mo x = .ok y → R (.ret (.tup [])) (hF b0 b1 s mo y (aS y) Y) lZ)
 (h2 : ∀ (w : Nat) (e : Int) (y : Fi), iZ s mo x = .error (w, e) → R (.pan (gU w e)) (hF b0 b1 s mo y (aS y) Y) lZ) :
 ah TE 54 [.lp 3 0] (hF b0 b1 s mo x (aS x) Y) R := by
 have hM : maxLen = 9223372036854775807 := rfl;have e0 := hq.q0 4 (by decide) (by decide);have e1 := hq.q1 4 (by decide) (by decide);have e2 := hq.q2 4 (by decide) (by decide);have dI : ∀ (p : Nat → Bool) (l : Cl), V.drops p (l.map vi) = l.map vi := fun p l => aQ _;have dU : ∀ (p : Nat → Bool) (l : List Us), V.drops p (usV l) = usV l := fun p l => jf;have dA : ∀ (p : Nat → Bool) (l : List An), V.drops p (anV l) = anV l := fun p l => jW;unfold iZ at h1 h2;refine ah.kp lZ ?_;refine ay Tryz.func54 rfl (by simp [nts]) ?_;cases hdef : Lh s mo x with
 | error er =>
  obtain ⟨w, e⟩ := er;rw [hdef] at h2;refine ag (iT mixed lY (fun f' h' => False) [] (fun v d kk t h' => d = [] ∧ (∀ j, kk j = true → j = 4) ∧ v = gU w e ∧ ∃ y, h' = hF b0 b1 s mo y (aS y) Y) (by decide +kernel) (by decide +kernel) ?_ (fun _ _ h => h.elim) ?_)
  ·simp only [wq.1, seval, lY]
   repeat' apply And.intro
   all_goals
    refine jV hs (fun n y hn => by rw [hdef] at hn; cases hn) (fun w' e' y hn => ?_);rw [hdef] at hn;cases hn;simp only [wq.1, bI, mQ];exact ⟨y, rfl⟩
  ·rintro v f' h' ⟨kd, kk, rfl, y, rfl⟩;simp only [XE.seq, bG];simp only [wq.1, kd];refine ⟨fun i hi => ?_, h2 w e y rfl⟩;have := kk i hi;subst this;rfl
 | ok ny =>
  obtain ⟨n, y⟩ := ny;rw [hdef] at h1 h2;dsimp only at h1 h2;obtain ⟨⟨b, rfl⟩, n0, n1, n2, n3, n4, n5⟩ := qY hdef;refine ag (iT mixed lY (fun f' h' => f'.t 0 = .lp 3 0 ∧ f'.d = [] ∧ (∀ j, f'.k j = true → j = 4) ∧ h' = hF b0 b1 s mo { x with a := b, D := x.D ++ [n / 2], ins := x.ins ++ [n] } (aS { x with D := x.D ++ [n / 2] }) Y) [] (fun _ _ _ _ _ => False) (by decide +kernel) (by decide +kernel) ?_ ?_ (fun _ _ _ h => h.elim))
  ·simp only [wq.1, seval, lY]
   repeat' apply And.intro
   all_goals
    refine jV hs (fun n' y hn => ?_) (fun w' e' y hn => by rw [hdef] at hn; cases hn);rw [hdef] at hn;cases hn;simp only [wq.1, seval, dI, dU, dA, e0, e1, e2, iU]
    repeat' apply And.intro
    all_goals first
     | rfl
     | decide
     | omega
     | exact fun j hj => by simpa using hj
     | simp only [hF, aS, rdT, fiT, List.map_append, List.map_cons, List.map_nil, List.length_append, List.length_singleton]
  ·rintro f' h' ⟨k0, kd, kk, rfl⟩;have kr : ∀ j, (f'.k j || false) = true → lZ j = true := fun j hj => by
    have := kk j (by simpa using hj);subst this;rfl
   refine vm ?_;simp only [wq.1, seval, Tryz.results54, k0];refine kR (s := s) (a := b) (T := fiT { x with ins := x.ins ++ [n] } mo) (by omega) rfl (fun hb => ?_) (fun hb => ?_)
   ·simp only [wq.1, kd];refine ⟨fun i hi => kr i (by simpa using hi), ?_⟩;have h1' := h1 { x with a := b + 1, D := x.D ++ [n / 2], ins := x.ins ++ [n] } (by unfold gQ; rw [if_pos hb]);simp only [hF, aS, rdT, fiT, List.map_append, List.map_cons, List.map_nil, List.length_append, List.length_singleton, List.append_assoc] at h1' ⊢;exact h1'
   ·simp only [wq.1, bI, kd];refine ⟨fun i hi => kr i (by simpa using hi), ?_⟩;exact h2 b 2 { x with a := b, D := x.D ++ [n / 2], ins := x.ins ++ [n] } (by unfold gQ; rw [if_neg (by rw [hb]; decide)])
theorem CW {b0 b1 : O} {s : S} {mo : Int} {x : Fi} {W : Cl} {Y : H} (hq : Qt b0 b1 Y) (hs : s.length ≤ 100000) (hl : x.outs.length ≤ 4000) {R : AEnd → H → (Nat → Bool) → Prop}
 (h1 : ∀ y, fM s mo x = .ok y → ∀ X, R (.ret (.tup [])) (hF b0 b1 s mo y W (Y ++ X)) lZ)
 (h2 : ∀ (w : Nat) (e : Int) (y : Fi), fM s mo x = .error (w, e) → ∀ X, R (.pan (gU w e)) (hF b0 b1 s mo y W (Y ++ X)) lZ) :
 ah TE 56 [.lp 3 0] (hF b0 b1 s mo x W Y) R := by
 have hM : maxLen = 9223372036854775807 := rfl;have e0 := hq.q0 8 (by decide) (by decide);have e1 := hq.q1 8 (by decide) (by decide);have e2 := hq.q2 8 (by decide) (by decide);have dI : ∀ (p : Nat → Bool) (l : Cl), V.drops p (l.map vi) = l.map vi := fun p l => aQ _;have dU : ∀ (p : Nat → Bool) (l : List Us), V.drops p (usV l) = usV l := fun p l => jf;have dA : ∀ (p : Nat → Bool) (l : List An), V.drops p (anV l) = anV l := fun p l => jW;have hul := xH x.outs;unfold fM at h1 h2;refine ah.kp lZ ?_;refine ay Tryz.func56 rfl (by simp [nts]) ?_;cases hdef : Eh s mo x with
 | error er =>
  obtain ⟨w, e⟩ := er;rw [hdef] at h2;refine ag (iT mixed lY (fun f' h' => False) [] (fun v d kk t h' => d = [] ∧ (∀ j, kk j = true → j = 8) ∧ v = gU w e ∧ ∃ y X, h' = hF b0 b1 s mo y W (Y ++ X)) (by decide +kernel) (by decide +kernel) ?_ (fun _ _ h => h.elim) ?_)
  ·simp only [wq.1, seval, lY]
   repeat' apply And.intro
   all_goals
    refine kS hs (fun n y hn => by rw [hdef] at hn; cases hn) (fun w' e' y hn X => ?_);rw [hdef] at hn;cases hn;simp only [wq.1, bI, mQ];exact ⟨y, X, rfl⟩
  ·rintro v f' h' ⟨kd, kk, rfl, y, X, rfl⟩;simp only [XE.seq, bG];simp only [wq.1, kd];refine ⟨fun i hi => ?_, h2 w e y rfl X⟩;have := kk i hi;subst this;rfl
 | ok ny =>
  obtain ⟨u, y⟩ := ny;rw [hdef] at h1 h2;dsimp only at h1 h2;obtain ⟨⟨b, rfl⟩, n0, n1, n2, n3⟩ := lM hdef;refine ag (iT mixed lY (fun f' h' => f'.t 0 = .lp 3 0 ∧ f'.d = [] ∧ (∀ j, f'.k j = true → j = 8) ∧ ∃ X, h' = hF b0 b1 s mo { x with a := b, outs := x.outs ++ [u] } W (Y ++ X)) [] (fun _ _ _ _ _ => False) (by decide +kernel) (by decide +kernel) ?_ ?_ (fun _ _ _ h => h.elim))
  ·simp only [wq.1, seval, lY]
   repeat' apply And.intro
   all_goals
    refine kS hs (fun n' y hn X => ?_) (fun w' e' y hn => by rw [hdef] at hn; cases hn);rw [hdef] at hn;cases hn;simp only [wq.1, seval, dI, dU, dA, e0, e1, e2, iU]
    repeat' apply And.intro
    all_goals first
     | rfl
     | decide
     | omega
     | exact fun j hj => by simpa using hj
     | skip
    all_goals
     have eu : usV (x.outs ++ [u]) = usV x.outs ++ [vi u.1, vi u.2] := by simp [usV]
     refine ⟨X.map (O.drop fun x => x == 8), ?_⟩;simp only [hF, rdT, fiT, eu, List.length_append, List.length_singleton];rfl
  ·rintro f' h' ⟨k0, kd, kk, X, rfl⟩;have kr : ∀ j, (f'.k j || false) = true → lZ j = true := fun j hj => by
    have := kk j (by simpa using hj);subst this;rfl
   refine vm ?_;simp only [wq.1, seval, Tryz.results56, k0];refine kR (s := s) (a := b) (T := fiT { x with outs := x.outs ++ [u] } mo) (by omega) rfl (fun hb => ?_) (fun hb => ?_)
   ·simp only [wq.1, kd];refine ⟨fun i hi => kr i (by simpa using hi), ?_⟩;have h1' := h1 { x with a := b + 1, outs := x.outs ++ [u] } (by unfold gQ; rw [if_pos hb]) X;exact h1'
   ·simp only [wq.1, bI, kd];refine ⟨fun i hi => kr i (by simpa using hi), ?_⟩;exact h2 b 2 { x with a := b, outs := x.outs ++ [u] } (by unfold gQ; rw [if_neg (by rw [hb]; decide)]) X
end Go.Proofs.YtfcpapokknfeeaaGreatDoor
