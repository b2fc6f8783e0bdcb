/- Lemmas for the statement of this claim, part F10: they hold with no conditions but those that each one names. -/
import Derived.Test.YtfcpapokknfeeaaGreatDoorF09
import Derived.Test.YtfcpapokknfeeaaGreatDoorA12
import Derived.Test.YtfcpapokknfeeaaGreatDoorA11
import Derived.Test.YtfcpapokknfeeaaGreatDoorF03
import Derived.Test.YtfcpapokknfeeaaGreatDoorA10
set_option linter.unusedVariables false
set_option maxRecDepth 20000
set_option linter.unusedSimpArgs false
set_option linter.unnecessarySimpa false
namespace Go.Proofs.YtfcpapokknfeeaaGreatDoor
open Go Go.Proofs Go.Abs
def zeO (f : Int) (u : Bool) (s : List Pr × Cl) (p : Pr) : List Pr × Cl :=
 (if u then s.1 ++ [(zK (s.2 ++ [2 * (f + (s.1.length : Int))]) p.1, zK (s.2 ++ [2 * (f + (s.1.length : Int))]) p.2)] else s.1, s.2 ++ [2 * (f + (s.1.length : Int))])
def zb4 (g : Gr) (use : Nat → Bool) : Nat → List Pr × Cl
 | 0 => ([], zaJ g.first.toNat)
 | i + 1 => zeO g.first (use i) (zb4 g use i) (g.ands.getD i (0, 0))
theorem zet {g : Gr} (hg : g.chk = 0) (use : Nat → Bool) : ∀ i, i ≤ g.ands.length →
 (zb4 g use i).1 = zdW g use i ∧ (zb4 g use i).2.length = g.first.toNat + i ∧ ∀ v, v < g.first.toNat + i → (zb4 g use i).2.getD v 0 = 2 * (zdc g.first.toNat use v : Int) := by
 obtain ⟨_, i0, i1, i2, i3, i4, i5⟩ := zI hg
 have hf := zO i0
 intro i
 induction i with
 | zero =>
  intro _
  refine ⟨rfl, by simp [zb4, zaq], fun v hv => ?_⟩
  have hvl : v < (zaJ g.first.toNat).length := by rw [zaq]; omega
  show (zaJ g.first.toNat).getD v 0 = _
  rw [zw hvl]
  unfold zdc
  rw [if_pos (by omega)]
  simp [zaJ]
 | succ i ih =>
  intro hi
  have hlt : i < g.ands.length := by omega
  obtain ⟨a1, a2, a3⟩ := ih (by omega)
  obtain ⟨o1, o2, o3, o4⟩ := zal i5 hlt
  obtain ⟨A, C, hAC⟩ : ∃ A C, zb4 g use i = (A, C) := ⟨_, _, rfl⟩
  have hst : zb4 g use (i + 1) = zeO g.first (use i) (A, C) g.ands[i] := by
   show zeO g.first (use i) (zb4 g use i) (g.ands.getD i (0, 0)) = _
   rw [hAC, zw hlt]
  rw [hAC] at a1 a2 a3
  dsimp only at a1 a2 a3
  have hn : zdc g.first.toNat use (g.first.toNat + i) = g.first.toNat + zc3 use i := by
   unfold zdc
   rw [if_neg (by omega), Nat.add_sub_cancel_left]
  have hal : A.length = zc3 use i := by rw [a1, zdX]
  have hC : ∀ v, v < g.first.toNat + (i + 1) → (C ++ [2 * (g.first + (A.length : Int))]).getD v 0 = 2 * (zdc g.first.toNat use v : Int) := by
   intro v hv
   by_cases hvi : v < g.first.toNat + i
   ·rw [List.getD_eq_getElem?_getD, List.getElem?_append_left (by omega), ← List.getD_eq_getElem?_getD]
    exact a3 v hvi
   ·have hvi : v = g.first.toNat + i := by omega
    rw [List.getD_eq_getElem?_getD, List.getElem?_append_right (by omega), show v - C.length = 0 by omega]
    show 2 * (g.first + (A.length : Int)) = _
    rw [hvi, hn, hal]
    omega
  rw [hst]
  refine ⟨?_, by simp only [zeO, List.length_append, List.length_singleton]; omega, hC⟩
  unfold zeO
  dsimp only
  have c1 : zK (C ++ [2 * (g.first + (A.length : Int))]) g.ands[i].1 = reA g.first.toNat use g.ands[i].1 := zbV (hC _ (by omega))
  have c2 : zK (C ++ [2 * (g.first + (A.length : Int))]) g.ands[i].2 = reA g.first.toNat use g.ands[i].2 := zbV (hC _ (by omega))
  rw [c1, c2]
  unfold zdW
  rw [List.range_succ, List.filter_append, List.map_append]
  cases hui : use i with
  | false => rw [if_neg (by decide), a1]; unfold zdW; simp [hui]
  | true => rw [if_pos rfl, a1]; unfold zdW; simp [hui, List.getElem?_eq_getElem hlt]
theorem zoZ {x : Gr} (hx : x.chk = 0) (hga : zf8 x.ands) : za6 x (zb4 x (zbb x) x.ands.length) = za6 x (zG x (zbb x) x.ands.length) := by
 obtain ⟨_, i0, i1, i2, i3, i4, i5⟩ := zI hx
 obtain ⟨r1, r2, r3, r4⟩ := zU i4
 have hf := zO i0
 have hv := zc5 i0
 obtain ⟨e1, e2⟩ := zc4 hx hga (zes hx) x.ands.length (Nat.le_refl _)
 obtain ⟨d1, d2, d3⟩ := zet hx (zbb x) x.ands.length (Nat.le_refl _)
 have wa : x.all = 2 * (x.first + x.ands.length) := rfl
 have key : ∀ a ∈ x.next ++ x.outs, zK (zb4 x (zbb x) x.ands.length).2 a = zK (zG x (zbb x) x.ands.length).2 a := fun a ha => by
  have hb : 0 ≤ a ∧ a < x.all := by
   rcases List.mem_append.1 ha with h | h
   ·exact r3 a h
   ·exact r4 a h
  have hl : znj x.first.toNat (zbb x) (a / 2).toNat := by
   by_cases h : (a / 2).toNat < x.first.toNat
   ·exact .inl h
   ·refine .inr ?_
    unfold zbb
    rw [show (x.first + (((a / 2).toNat - x.first.toNat : Nat) : Int)).toNat = (a / 2).toNat by omega]
    exact zir ha rfl (by omega)
  rw [zbV (d3 _ (by omega)), zbV (e2 _ (by omega) hl)]
 unfold za6
 rw [d1, e1, List.map_congr_left fun a ha => key a (List.mem_append_left _ ha), List.map_congr_left fun a ha => key a (List.mem_append_right _ ha)]
theorem zln {g : Gr} (hg : g.chk = 0) : zas g = za6 (za6 g (zG g (fun _ => true) g.ands.length)) (zb4 (za6 g (zG g (fun _ => true) g.ands.length)) (zbb (za6 g (zG g (fun _ => true) g.ands.length))) (za6 g (zG g (fun _ => true) g.ands.length)).ands.length) :=
 (zoZ (zae hg _) (zca (zI hg).i0 _ _)).symm
def lnG : Cl → S
 | [] => [10]
 | n :: l => 32 :: (Lib.itoa n ++ lnG l)
def lnT : Cl → S
 | [] => [10]
 | n :: l => Lib.itoa n ++ lnG l
def nmT (c : UInt8) : Nat → List S → S
 | _, [] => []
 | i, s :: l => c :: (Lib.itoa i ++ 32 :: (s ++ 10 :: nmT c (i + 1) l))
def zcA (m : Mo) : S := nmT 105 0 m.ins ++ (nmT 108 0 m.lat ++ nmT 111 0 m.out)
def zqH (g : Gr) (i : Nat) : Cl := 2 * (1 + g.ins + (i : Int)) :: g.next.getD i 0 :: (if g.init.getD i 0 = 0 then [] else if g.init.getD i 0 = 1 then [1] else [2 * (1 + g.ins + (i : Int))])
def zdd (g : Gr) : Cl := [g.first - 1 + (g.ands.length : Int), g.ins, (g.next.length : Int), (g.outs.length : Int), (g.ands.length : Int)]
def zs4 (n : Nat) : S := (List.range n).flatMap fun i : Nat => lnT [2 * ((i : Int) + 1)]
def zr8 (g : Gr) (n : Nat) : S := (List.range n).flatMap fun i : Nat => lnT (zqH g i)
def zhh (l : Cl) (n : Nat) : S := (List.range n).flatMap fun i : Nat => lnT [l.getD i 0]
def zr9 (g : Gr) (n : Nat) : S := (List.range n).flatMap fun i : Nat => lnT [2 * (g.first + (i : Int)), (g.ands.getD i (0, 0)).1, (g.ands.getD i (0, 0)).2]
abbrev RE (α : Type) := Except (Nat × Int) α
def zf0 (s : S) (a : Nat) : RE (Int × Nat) := if (zha s a).2.2 = 0 then .ok ((zha s a).1, (zha s a).2.1.toNat) else .error (a, 3)
def zde (s : S) (c : UInt8) (a : Nat) : RE Nat := if zen s a c = true then .ok (a + 1) else .error (a, 2)
def zd1 (s : S) : Nat → Nat → Cl → RE (Cl × Nat)
 | 0, a, l => .ok (l, a)
 | k + 1, a, l => if zen s a 32 = true then (match zf0 s (a + 1) with
  | .ok (n, b) => zd1 s k b (l ++ [n])
  | .error e => .error e) else .ok (l, a)
def hd9 (l : Cl) : Cl := l ++ List.replicate (9 - l.length) 0
def znm (h : Cl) : Bool := decide (h.getD 0 0 ≤ 4000) && decide (h.getD 1 0 + h.getD 2 0 + h.getD 4 0 ≤ h.getD 0 0) && decide (h.getD 3 0 + h.getD 5 0 + h.getD 6 0 ≤ 4000)
def zeP (s magic : S) : RE (Cl × Nat) :=
 if magic.isPrefixOf s = true then (match zd1 s 9 magic.length [] with
  | .ok (l, a) => if 5 ≤ l.length then (match zde s 10 a with
   | .ok b => if (hd9 l).getD 7 0 = 0 ∧ (hd9 l).getD 8 0 = 0 then if znm (hd9 l) = true then .ok (hd9 l, b) else .error (0, 8) else .error (0, 9)
   | .error e => .error e) else .error (a, 2)
  | .error e => .error e) else .error (0, 2)
abbrev Us := Int × Nat
structure An where
 lit : Int
 pos : Nat
 p : Us
 q : Us
structure Fi where
 a : Nat
 D : Cl
 ins : Cl
 lats : Cl
 next : List Us
 init : Cl
 outs : List Us
 ands : List An
def zs5 (s : S) (mo : Int) (x : Fi) : RE (Int × Fi) :=
 match zf0 s x.a with
 | .error e => .error e
 | .ok (n, b) => if n % 2 = 0 ∧ 2 ≤ n ∧ n ≤ mo then if n / 2 ∈ x.D then .error (x.a, 5) else .ok (n, { x with a := b, D := x.D ++ [n / 2] }) else .error (x.a, 1)
def ztj (s : S) (mo : Int) (x : Fi) : RE (Us × Fi) :=
 match zf0 s x.a with
 | .error e => .error e
 | .ok (n, b) => if n ≤ mo then .ok ((n, x.a), { x with a := b }) else .error (x.a, 1)
def zqI (s : S) (c : UInt8) (x : Fi) : RE Fi := if zen s x.a c = true then .ok { x with a := x.a + 1 } else .error (x.a, 2)
def zsa (s : S) (mo : Int) (x : Fi) : RE Fi :=
 match zs5 s mo x with
 | .error e => .error e
 | .ok (n, y) => zqI s 10 { y with ins := y.ins ++ [n] }
def zsb (s : S) (lit : Int) (x : Fi) : RE (Int × Fi) :=
 if zen s x.a 32 = true then (match zf0 s (x.a + 1) with
  | .error e => .error e
  | .ok (n, b) => if n < 2 ∨ n = lit then .ok (n, { x with a := b }) else .error (x.a + 1, 1)) else .ok (0, x)
def zsc (s : S) (mo : Int) (x : Fi) : RE Fi :=
 match zs5 s mo x with
 | .error e => .error e
 | .ok (lit, y) => match zqI s 32 y with
  | .error e => .error e
  | .ok y => match ztj s mo y with
   | .error e => .error e
   | .ok (u, y) => match zsb s lit { y with next := y.next ++ [u] } with
    | .error e => .error e
    | .ok (n, y) => zqI s 10 { y with lats := y.lats ++ [lit], init := y.init ++ [min n 2] }
def zsN (f : Fi → RE Fi) : Nat → Fi → RE Fi
 | 0, x => .ok x
 | n + 1, x => match f x with
  | .error e => .error e
  | .ok y => zsN f n y
def zpE (c : UInt8) : Option Nat := [(105 : UInt8), 108, 111, 98, 99].findIdx? (· == c)
def zqJ (s : S) (a : Nat) : Bool := ([99, 10] : S).isPrefixOf (s.drop a) || s.drop a == [99]
def zfM (s : S) (L : List (List S)) (a : Nat) : RE (List (List S) × Nat) :=
 match zpE (s.getD a 0) with
 | none => .error (a, 2)
 | some k => match zf0 s (a + 1) with
  | .error e => .error e
  | .ok (n, b) => match zde s 32 b with
   | .error e => .error e
   | .ok b =>
    if b + ((s.drop b).takeWhile (· != 10)).length < s.length then
     if n < ((L.getD k []).length : Int) then
      if zbH ((s.drop b).takeWhile (· != 10)) = true then
       if (L.getD k []).getD n.toNat [] = [] then .ok (L.set k ((L.getD k []).set n.toNat ((s.drop b).takeWhile (· != 10))), b + ((s.drop b).takeWhile (· != 10)).length + 1) else .error (a, 5)
      else .error (b, 4)
     else .error (a + 1, 1)
    else .error (s.length, 2)
def ziR (s : S) : Nat → List (List S) → Nat → RE (List (List S))
 | 0, L, _ => .ok L
 | k + 1, L, a => if a < s.length ∧ zqJ s a = false then (match zfM s L a with
  | .error e => .error e
  | .ok (L, b) => ziR s k L b) else .ok L
def zcw (c : UInt8) : Nat → List S → List S
 | _, [] => []
 | i, x :: l => (if x = [] then c :: Lib.itoa i else x) :: zcw c (i + 1) l
def zlo (L : List (List S)) : List (List S) := [zcw 105 0 (L.getD 0 []), zcw 108 0 (L.getD 1 []), zcw 111 0 (L.getD 2 []), zcw 98 0 (L.getD 3 []), zcw 99 0 (L.getD 4 [])]
def zf9 (many : Cl) : List (List S) := many.map fun n => List.replicate (min (max n 0) 4000).toNat []
def zkb (s : S) (many : Cl) (a : Nat) : RE (List (List S)) :=
 match ziR s (s.length + 1) (zf9 many) a with
 | .error e => .error e
 | .ok L => .ok (zlo L)
def An.nil : An := ⟨0, 0, (0, 0), (0, 0)⟩
def zsO (D : Cl) : Cl → Int → Cl → Cl
 | V, _, [] => V
 | V, k, l :: ls => zsO D (V.set (D.idxOf (l / 2)) k) (k + 1) ls
def Fi.vals (x : Fi) (o : List Nat) : Cl :=
 zsO x.D (zsO x.D (x.D.map fun _ => 0) 1 (x.ins ++ x.lats)) (1 + (x.ins.length : Int) + x.lats.length) (o.map fun k => (x.ands.getD k .nil).lit)
def Fi.start (a : Nat) : Fi := ⟨a, [0], [], [], [], [], [], []⟩
def Fi.left (x : Fi) : Cl := x.ands.map fun a => a.lit / 2
theorem zsP : zaj 10 = false := by decide
theorem zsQ : zaj 32 = false := by decide
theorem zsd (l : Cl) : ∃ c r, lnG l = c :: r ∧ zaj c = false := by
 cases l with
 | nil => exact ⟨10, [], rfl, zsP⟩
 | cons n l => exact ⟨32, _, rfl, zsQ⟩
def ztk (n : Nat) : Cl := (List.range n).map fun i : Nat => (i : Int)
def zsR (f : Nat → S) (i n : Nat) : S := (List.range' i (n - i)).flatMap f
def PL (s : S) (g : Gr) (r : S) (i : Nat) (x : Fi) : Prop := s.drop x.a = zsR (fun i : Nat => lnT (zqH g i)) i g.next.length ++ r ∧ x.D = ztk (1 + g.ins.toNat + i) ∧ x.ins = (List.range g.ins.toNat).map (fun j : Nat => 2 * ((j : Int) + 1)) ∧ x.lats = (List.range i).map (fun j : Nat => 2 * (1 + g.ins + (j : Int))) ∧ x.next.map Prod.fst = g.next.take i ∧ x.init = g.init.take i ∧ x.outs = [] ∧ x.ands = []
def zsS (g : Gr) : RE (List (List S)) → RE Mo
 | .error e => .error e
 | .ok N => if Mo.chk ⟨g, N.getD 0 [], N.getD 1 [], N.getD 2 [] ++ (N.getD 3 [] ++ N.getD 4 [])⟩ = 0 then .ok ⟨g, N.getD 0 [], N.getD 1 [], N.getD 2 [] ++ (N.getD 3 [] ++ N.getD 4 [])⟩ else .error (0, Mo.chk ⟨g, N.getD 0 [], N.getD 1 [], N.getD 2 [] ++ (N.getD 3 [] ++ N.getD 4 [])⟩)
theorem zeG {m : Mo} (h : m.chk = 0) : ∀ x, x ∈ m.ins ∨ x ∈ m.lat ∨ x ∈ m.out → zbH x = true := by
 have hn := (zaX h).2.2.1
 unfold Mo.names at hn
 simp only [Bool.or_eq_false_iff, List.any_eq_false, za8, Bool.not_eq_true', Bool.not_eq_true, Bool.not_eq_false', Bool.not_eq_false] at hn
 rintro x (hx | hx | hx)
 ·exact hn.1.1 x hx
 ·exact hn.1.2 x hx
 ·exact hn.2 x hx
abbrev rdT (s : S) (a : Nat) (T : List V) : O := .cells (.str s :: vi a :: T)
abbrev zeu (a e : Int) : V := .iface 153 (.agg [vi a, vi e])
theorem zE {h : H} {R : AEnd → H → (Nat → Bool) → Prop} (b : Bool) (a e : Int)
 (h1 : b = true → R (.ret (.tup [])) h (fun _ => false)) (h2 : b = false → R (.pan (zeu a e)) h (fun _ => false)) : zb TE 60 [.bool b, vi a, vi e] h R := by
 refine zl Tryz.func60 rfl (by simp [nts]) (vm ?_)
 cases b with
 | true =>
  simp only [wq.down, seval, Tryz.results60]
  exact h1 rfl
 | false =>
  simp only [wq.down, seval, Tryz.results60]
  exact ⟨nofun, h2 rfl⟩
theorem zit {k a : Nat} {s : S} {T : List V} {h : H} {R : AEnd → H → (Nat → Bool) → Prop} (c : UInt8) (hk : h[k]? = some (rdT s a T))
 (hr : R (.ret (.bool (zen s a c))) h (fun _ => false)) : zb TE 100 [.lp k 0, vb c] h R := by
 refine zl Tryz.func100 rfl (by simp [nts]) (vm ?_)
 unfold zen at hr
 by_cases hlt : a < s.length
 ·have e1 : decide ((a : Int) < (s.length : Int)) = true := by simpa using hlt
  have e2 : s.getD a 0 = s[a] := zw hlt
  rw [List.getElem?_eq_getElem hlt] at hr
  simp only [wq.down, seval, Tryz.results100, hk, e1, e2, zrX]
  refine ⟨by decide +kernel, ⟨by omega, by omega⟩, hr⟩
 ·have e1 : decide ((a : Int) < (s.length : Int)) = false := by simpa using hlt
  rw [List.getElem?_eq_none (by omega)] at hr
  simp only [wq.down, seval, Tryz.results100, hk, e1]
  exact ⟨by decide +kernel, hr⟩
theorem zd2 {k a : Nat} {s : S} {T : List V} {h : H} {R : AEnd → H → (Nat → Bool) → Prop} (hs : s.length ≤ 100000) (hk : h[k]? = some (rdT s a T))
 (h1 : ∀ n b, zf0 s a = .ok (n, b) → R (.ret (vi n)) (h.set k (rdT s b T)) (fun _ => false)) (h2 : zf0 s a = .error (a, 3) → R (.pan (zeu a 3)) h (fun _ => false)) : zb TE 101 [.lp k 0] h R := by
 have hG := zpt s a hs
 have hend : 0 ≤ (zha s a).2.1 := by
  unfold zha
  split
  ·exact Int.natCast_nonneg _
  ·split
   ·show 0 ≤ (a : Int) + _
    omega
   ·exact Int.natCast_nonneg _
 obtain ⟨r, hr⟩ : ∃ r, r = zha s a := ⟨_, rfl⟩
 unfold zf0 at h1 h2
 rw [← hr] at hG h1 h2 hend
 obtain ⟨b, hb⟩ : ∃ b : Nat, r.2.1 = b := ⟨r.2.1.toNat, by omega⟩
 refine zl Tryz.func101 rfl (by simp [nts]) (vm ?_)
 simp only [wq.down, seval, Tryz.results101, hk]
 refine ⟨by decide +kernel, zeb.mk hG rfl rfl ?_⟩
 simp only [wq.down, seval, hk, hb]
 by_cases he : r.2.2 = 0
 ·rw [if_pos he] at h1
  have hd : (r.2.2 == 0) = true := by simpa using he
  simp only [wq.down, hd]
  refine zE true a 3 (fun _ => ?_) (fun h => by cases h)
  have := h1 _ _ rfl
  rw [hb, Int.toNat_natCast] at this
  simp only [wq.down, seval, hk]
  exact this
 ·rw [if_neg he] at h2
  have hd : (r.2.2 == 0) = false := by simpa using he
  simp only [wq.down, hd]
  refine zE false a 3 (fun h => by cases h) (fun _ => ?_)
  simp only [wq.down, z8]
  exact h2 rfl
def zpF : Plan := .take 0 <| .take 1 <| .take 3 <| .take 4 <| .take 5 <| .alt 2 (.one 6 <| .one 7 <| .fin) (.one 6 (.one 2 <| .one 7 <| .fin))
theorem zfN {k a : Nat} {s : S} {T : List V} {h : H} {R : AEnd → H → (Nat → Bool) → Prop} (c : UInt8) (ha : s.length ≤ 1000000000) (hk : h[k]? = some (rdT s a T))
 (h1 : zen s a c = true → R (.ret (.tup [])) (h.set k (rdT s (a + 1) T)) (fun _ => false)) (h2 : zen s a c = false → R (.pan (zeu a 2)) h (fun _ => false)) : zb TE 143 [.lp k 0, vb c] h R := by
 have hM : maxLen = 9223372036854775807 := rfl
 refine zl Tryz.func143 rfl (by simp [nts]) ?_
 refine za (zaG mixed zpF (fun f' h' => zen s a c = true ∧ f'.t 0 = .lp k 0 ∧ f'.d = [] ∧ (∀ j, f'.k j = false) ∧ h' = h) [] (fun v d kk t h' => d = [] ∧ (∀ j, kk j = false) ∧ zen s a c = false ∧ v = zeu a 2 ∧ h' = h) (by decide +kernel) (by decide +kernel) ?_ ?_ ?_)
 ·simp only [wq.down, seval, zpF, hk]
  repeat' apply And.intro
  all_goals
   refine zit c hk ?_
   simp only [wq.down, seval, hk]
   refine zE _ _ 2 (fun hb => ?_) (fun hb => ?_)
   ·simp only [wq.down, seval, zaH]
    exact hb
   ·simp only [wq.down, z8, zbF]
    exact hb
 ·rintro f h' ⟨hb, h0, hd, hkf, rfl⟩
  have hl := zfC hb
  have hw := zi (show a < maxLen by omega)
  refine vm ?_
  simp only [wq.down, seval, Tryz.results143, h0, hd, hk, hw]
  rw [show f.k = fun _ => false from funext hkf]
  exact h1 hb
 ·rintro v f h' ⟨hd, hkf, hb, rfl, rfl⟩
  simp only [XE.seq, zau]
  simp only [wq.down, hd]
  rw [show f.k = fun _ => false from funext hkf]
  exact h2 hb
theorem zlp {k a : Nat} {s : S} {T : List V} {h : H} {R : AEnd → H → (Nat → Bool) → Prop} (ha : s.length ≤ 1000000000) (hk : h[k]? = some (rdT s a T))
 (h1 : zen s a 10 = true → R (.ret (.tup [])) (h.set k (rdT s (a + 1) T)) (fun _ => false)) (h2 : zen s a 10 = false → R (.pan (zeu a 2)) h (fun _ => false)) : zb TE 102 [.lp k 0] h R := by
 refine zl Tryz.func102 rfl (by simp [nts]) (vm ?_)
 simp only [wq.down, seval, Tryz.results102]
 refine zfN 10 ha hk (fun hb => ?_) (fun hb => ?_)
 ·simp only [wq.down]
  exact h1 hb
 ·simp only [wq.down, z8]
  exact h2 hb
theorem ziu {k a : Nat} {s : S} {T : List V} {h : H} {R : AEnd → H → (Nat → Bool) → Prop} (ha : s.length ≤ 1000000000) (hk : h[k]? = some (rdT s a T))
 (h1 : zen s a 32 = true → R (.ret (.tup [])) (h.set k (rdT s (a + 1) T)) (fun _ => false)) (h2 : zen s a 32 = false → R (.pan (zeu a 2)) h (fun _ => false)) : zb TE 104 [.lp k 0] h R := by
 refine zl Tryz.func104 rfl (by simp [nts]) (vm ?_)
 simp only [wq.down, seval, Tryz.results104]
 refine zfN 32 ha hk (fun hb => ?_) (fun hb => ?_)
 ·simp only [wq.down]
  exact h1 hb
 ·simp only [wq.down, z8]
  exact h2 hb
abbrev usV (l : List Us) : List V := l.flatMap fun u => [vi u.1, vi u.2]
abbrev anV (l : List An) : List V := l.flatMap fun a => [vi a.lit, vi a.pos, vi a.p.1, vi a.p.2, vi a.q.1, vi a.q.2]
abbrev fiT (x : Fi) (mo : Int) : List V := [vi mo, .lm 2, .ls 4 1 0 x.ins.length x.ins.length, .ls 5 1 0 x.lats.length x.lats.length, .ls 6 2 0 x.next.length x.next.length, .ls 7 1 0 x.init.length x.init.length, .ls 8 2 0 x.outs.length x.outs.length, .ls 9 6 0 x.ands.length x.ands.length]
abbrev hF (b0 b1 : O) (s : S) (mo : Int) (x : Fi) (W : Cl) (Y : H) : H :=
 b0 :: b1 :: .map (x.D.map vi) (W.map vi) :: rdT s x.a (fiT x mo) :: .cells (x.ins.map vi) :: .cells (x.lats.map vi) :: .cells (usV x.next) :: .cells (x.init.map vi) :: .cells (usV x.outs) :: .cells (anV x.ands) :: Y
theorem zjz {s : S} {a b : Nat} {n : Int} (h : zf0 s a = .ok (n, b)) : 0 ≤ n ∧ n ≤ 2147483647 := by
 unfold zf0 at h
 split at h
 ·rename_i h1
  simp only [Except.ok.injEq, Prod.mk.injEq] at h
  rw [← h.1]
  revert h1
  unfold zha
  split
  ·intro h1; cases h1
  ·split
   ·rename_i h2
    intro _
    have := h2.2.1
    show 0 ≤ ((zdQ 0 ((s.drop (a : Int).toNat).takeWhile zaj) : Nat) : Int) ∧ ((zdQ 0 ((s.drop (a : Int).toNat).takeWhile zaj) : Nat) : Int) ≤ 2147483647
    omega
   ·intro h1; cases h1
 ·cases h
abbrev fiG (x : Fi) (mo : Int) : List V := [vi mo, .lm 2, zo x.ins, zo x.lats, .ls 6 2 0 x.next.length x.next.length, zo x.init, .ls 8 2 0 x.outs.length x.outs.length, .ls 9 6 0 x.ands.length x.ands.length]
abbrev hG (b0 b1 : O) (s : S) (mo : Int) (x : Fi) (W : Cl) (Y : H) : H :=
 b0 :: b1 :: .map (x.D.map vi) (W.map vi) :: rdT s x.a (fiG x mo) :: .dead :: .dead :: .cells (usV x.next) :: .dead :: .cells (usV x.outs) :: .cells (anV x.ands) :: Y
structure FOk (x : Fi) : Prop where
 lin : ∀ n ∈ x.ins ++ x.lats, 0 ≤ n ∧ n ≤ 2147483647 ∧ n / 2 ∈ x.D
 an : ∀ a ∈ x.ands, 0 ≤ a.lit ∧ a.lit ≤ 2147483647 ∧ 0 ≤ a.p.1 ∧ a.p.1 ≤ 2147483647 ∧ 0 ≤ a.q.1 ∧ a.q.1 ≤ 2147483647 ∧ a.lit / 2 ∈ x.D
 nd : x.left.Nodup
 nx : ∀ u ∈ x.next, 0 ≤ u.1 ∧ u.1 ≤ 2147483647
 ou : ∀ u ∈ x.outs, 0 ≤ u.1 ∧ u.1 ≤ 2147483647
structure FLn (x : Fi) (n1 n2 n3 n4 : Nat) : Prop where
 l1 : x.ins.length = n1
 l2 : x.lats.length = n2
 l3 : x.next.length = n2
 l4 : x.init.length = n2
 l5 : x.outs.length = n3
 l6 : x.ands.length = n4
theorem FOk.a {x : Fi} (h : FOk x) {b : Nat} : FOk { x with a := b } := ⟨h.lin, h.an, h.nd, h.nx, h.ou⟩
theorem zhi {l : Cl} (h : l.length ≤ 9) : (hd9 l).length = 9 := by unfold hd9; simp; omega
theorem zqK {l : Cl} {n : Int} (h : l.length < 9) : (hd9 l).set l.length n = hd9 (l ++ [n]) := by
 unfold hd9
 rw [List.set_append_right _ _ (Nat.le_refl _), Nat.sub_self, show 9 - l.length = (9 - (l.length + 1)) + 1 by omega, List.replicate_succ, List.set_cons_zero, List.length_append, List.length_singleton, List.append_assoc]
 rfl
theorem znn {l : Cl} (hl : ∀ n ∈ l, 0 ≤ n ∧ n ≤ 2147483647) : ∀ n ∈ hd9 l, 0 ≤ n ∧ n ≤ 2147483647 := fun n hn => by
 unfold hd9 at hn
 rcases List.mem_append.1 hn with h | h
 ·exact hl n h
 ·have := List.eq_of_mem_replicate h; omega
theorem zse {l : Cl} (h : l.length = 9) : ∃ a0 a1 a2 a3 a4 a5 a6 a7 a8, l = [a0, a1, a2, a3, a4, a5, a6, a7, a8] := by
 match l, h with
 | [a0, a1, a2, a3, a4, a5, a6, a7, a8], _ => exact ⟨_, _, _, _, _, _, _, _, _, rfl⟩
theorem zno {s : S} {a b : Nat} {n : Int} (h : zf0 s a = .ok (n, b)) : b ≤ s.length := by
 unfold zf0 at h
 split at h
 ·rename_i h1
  simp only [Except.ok.injEq, Prod.mk.injEq] at h
  rw [← h.2]
  revert h1
  unfold zha
  have hl : ((s.drop (a : Int).toNat).takeWhile zaj).length ≤ (s.drop (a : Int).toNat).length := (List.takeWhile_sublist _).length_le
  rw [List.length_drop] at hl
  split
  ·intro h1; cases h1
  ·rename_i h0
   split
   ·intro _
    dsimp only
    omega
   ·intro h1; cases h1
 ·cases h
theorem zqL {l : Cl} {n : Int} (h : l.length < 9) : List.take (l.length * 1) ((hd9 l).map vi) ++ [vi n] ++ List.drop (l.length * 1 + 1) ((hd9 l).map vi) = (hd9 (l ++ [n])).map vi := by
 have hl := zhi (l := l) (by omega)
 rw [← zqK h, List.map_set, List.set_eq_take_append_cons_drop, if_pos (by rw [List.length_map]; omega), Nat.mul_one]
 simp
theorem zkc {s : S} : ∀ {k a : Nat} {l l' : Cl} {b : Nat}, zd1 s k a l = .ok (l', b) → (∀ n ∈ l, 0 ≤ n ∧ n ≤ 2147483647) → l.length + k ≤ 9 → (∀ n ∈ l', 0 ≤ n ∧ n ≤ 2147483647) ∧ l'.length ≤ 9
 | 0, a, l, l', b, h, hl, hk => by
  simp only [zd1, Except.ok.injEq, Prod.mk.injEq] at h
  obtain ⟨rfl, rfl⟩ := h
  exact ⟨hl, by omega⟩
 | k + 1, a, l, l', b, h, hl, hk => by
  unfold zd1 at h
  split at h
  ·cases hn : zf0 s (a + 1) with
   | error e => rw [hn] at h; cases h
   | ok v =>
    obtain ⟨n, c⟩ := v
    rw [hn] at h
    dsimp only at h
    have := zjz hn
    refine zkc h (fun x hx => ?_) (by rw [List.length_append, List.length_singleton]; omega)
    rcases List.mem_append.1 hx with h | h
    ·exact hl x h
    ·rw [List.mem_singleton] at h; subst h; exact this
  ·simp only [Except.ok.injEq, Prod.mk.injEq] at h
   obtain ⟨rfl, rfl⟩ := h
   exact ⟨hl, by omega⟩
theorem zhj {s magic : S} {l : Cl} {b : Nat} (h : zeP s magic = .ok (l, b)) : ∃ a0 a1 a2 a3 a4 a5 a6, l = [a0, a1, a2, a3, a4, a5, a6, 0, 0] ∧ 0 ≤ a0 ∧ 0 ≤ a1 ∧ 0 ≤ a2 ∧ 0 ≤ a3 ∧ 0 ≤ a4 ∧ 0 ≤ a5 ∧ 0 ≤ a6 ∧ a0 ≤ 4000 ∧ a1 + a2 + a4 ≤ a0 ∧ a3 + a5 + a6 ≤ 4000 := by
 unfold zeP at h
 split at h
 ·cases hL : zd1 s 9 magic.length [] with
  | error e => rw [hL] at h; cases h
  | ok v =>
   obtain ⟨l', a⟩ := v
   rw [hL] at h
   dsimp only at h
   obtain ⟨b1, b2⟩ := zkc hL (fun n hn => by cases hn) (by decide)
   split at h
   ·cases hb : zde s 10 a with
    | error e => rw [hb] at h; cases h
    | ok c =>
     rw [hb] at h
     dsimp only at h
     split at h
     ·rename_i h78
      split at h
      ·rename_i hlim
       simp only [Except.ok.injEq, Prod.mk.injEq] at h
       obtain ⟨rfl, rfl⟩ := h
       have h9 := znn b1
       obtain ⟨a0, a1, a2, a3, a4, a5, a6, a7, a8, hq⟩ := zse (zhi b2)
       rw [hq] at h78 hlim h9 ⊢
       have e7 : a7 = 0 := h78.1
       have e8 : a8 = 0 := h78.2
       subst e7 e8
       have hlim : (decide (a0 ≤ 4000) && decide (a1 + a2 + a4 ≤ a0) && decide (a3 + a5 + a6 ≤ 4000)) = true := hlim
       simp only [Bool.and_eq_true, decide_eq_true_eq] at hlim
       have c0 := h9 a0 (by simp); have c1 := h9 a1 (by simp); have c2 := h9 a2 (by simp); have c3 := h9 a3 (by simp); have c4 := h9 a4 (by simp); have c5 := h9 a5 (by simp); have c6 := h9 a6 (by simp)
       exact ⟨a0, a1, a2, a3, a4, a5, a6, rfl, by omega, by omega, by omega, by omega, by omega, by omega, by omega, by omega, by omega, by omega⟩
      ·cases h
     ·cases h
   ·cases h
 ·cases h
abbrev hR (k : Nat) (s : S) (a : Nat) (T : List V) (h X : H) : H := h.set k (rdT s a T) ++ X
theorem zjA {k a : Nat} {s : S} {T : List V} {h X : H} (hk : k < h.length) : (hR k s a T h X)[k]? = some (rdT s a T) := by
 rw [hR, List.getElem?_append_left (by simpa using hk), List.getElem?_set_self hk]
theorem zkd {k a b : Nat} {s : S} {T : List V} {h X : H} (hk : k < h.length) : (hR k s a T h X).set k (rdT s b T) = hR k s b T h X := by
 rw [hR, hR, List.set_append_left _ _ (by simpa using hk), List.set_set]
theorem zdm {k a : Nat} {s : S} {T : List V} {h : H} {o : O} : (hR k s a T h [o])[h.length]? = some o := by
 rw [hR, List.getElem?_append_right (by simp)]; simp
theorem zpG {k a : Nat} {s : S} {T : List V} {h : H} {o q : O} : (hR k s a T h [o]).set h.length q = hR k s a T h [q] := by
 rw [hR, hR, List.set_append_right _ _ (by simp)]; simp
theorem zsT {k a : Nat} {s : S} {T : List V} {h X : H} (hk : h[k]? = some (rdT s a T)) : h ++ X = hR k s a T h X := by
 rw [hR, zg7 hk]
set_option maxHeartbeats 4000000 in
theorem ziv {k a0 : Nat} {s magic : S} {T : List V} {h : H} (hk : h[k]? = some (rdT s a0 T)) (hs : s.length ≤ 100000) {R : AEnd → H → (Nat → Bool) → Prop}
 (h1 : ∀ l b, zeP s magic = .ok (l, b) → R (.ret (.agg (l.map vi))) (hR k s b T h [.cells (l.map vi)]) (fun _ => false))
 (h2 : ∀ (w : Nat) (e : Int), zeP s magic = .error (w, e) → ∀ b X, R (.pan (zeu w e)) (hR k s b T h X) (fun _ => false)) :
 zb TE 53 [.lp k 0, .str magic] h R := by
 have hM : maxLen = 9223372036854775807 := rfl
 have hkl : k < h.length := (List.getElem?_eq_some_iff.1 hk).1
 have hne : k ≠ h.length := by omega
 unfold zeP at h1 h2
 refine zb.kp (fun _ => false) ?_
 refine zl Tryz.func53 rfl (by simp [nts]) ?_
 refine za (vm ?_)
 simp only [wq.down, Nat.reduceLT, Tryz.results53]
 rw [zsT hk]
 refine za (vm ?_)
 simp only [wq.down, seval, zjA hkl]
 refine zb.ev (zm6 s magic) rfl ?_
 simp only [wq.down, seval]
 refine zE _ 0 2 (fun hb => ?_) (fun hb => ?_)
 ·rw [if_pos hb] at h1 h2
  have hml : magic.length ≤ s.length := by rw [List.isPrefixOf_iff_prefix] at hb; exact hb.length_le
  simp only [wq.down]
  refine za (vm ?_)
  simp only [wq.down, seval, zjA hkl, zkd hkl]
  refine za (vm ?_)
  simp only [wq.down, Nat.reduceLT]
  refine za (zN (Q := fun xe f h' => (xe = .normal ∧ ∃ l a, zd1 s 9 magic.length [] = .ok (l, a) ∧ a ≤ s.length ∧ l.length ≤ 9 ∧ (∀ n ∈ l, 0 ≤ n ∧ n ≤ 2147483647) ∧ f.t 0 = .lp k 0 ∧ f.t 4 = .lp h.length 0 ∧ f.t 5 = vi l.length ∧ f.d = [] ∧ (∀ j, f.k j = true → False) ∧ h' = hR k s a T h [.cells ((hd9 l).map vi)]) ∨ (∃ (w : Nat) (e : Int), xe = .pan (zeu w e) ∧ zd1 s 9 magic.length [] = .error (w, e) ∧ f.d = [] ∧ (∀ j, f.k j = true → False) ∧ ∃ b X, h' = hR k s b T h X)) ?_ ?_)
  ·rintro xe f h' (⟨rfl, l, a, hL, has, hl9, hlb, t0, t4, t5, hd, hk', rfl⟩ | ⟨w, e, rfl, hL, hd, hk', b, X, rfl⟩)
   ·rw [hL] at h1 h2
    dsimp only at h1 h2
    show awp _ _ _ _ _ _ _
    refine za (vm ?_)
    simp only [wq.down, seval, t0, t5, zjA hkl]
    refine zE _ _ 2 (fun hb5 => ?_) (fun hb5 => ?_)
    ·have hb5' : 5 ≤ l.length := by have := of_decide_eq_true hb5; omega
     rw [if_pos hb5'] at h1 h2
     simp only [wq.down]
     refine za (vm ?_)
     simp only [wq.down, seval, t0]
     refine zlp (by omega) (zjA hkl) (fun he => ?_) (fun he => ?_)
     ·unfold zde at h1 h2
      rw [if_pos he] at h1 h2
      dsimp only at h1 h2
      rw [zkd hkl]
      have h9 := znn hlb
      obtain ⟨a0, a1, a2, a3, a4, a5, a6, a7, a8, hq⟩ := zse (zhi hl9)
      rw [hq] at h1 h2 h9 ⊢
      have c0 := h9 a0 (by simp); have c1 := h9 a1 (by simp); have c2 := h9 a2 (by simp); have c3 := h9 a3 (by simp); have c4 := h9 a4 (by simp); have c5 := h9 a5 (by simp); have c6 := h9 a6 (by simp)
      simp only [wq.down]
      by_cases h7 : a7 = 0
      ·by_cases h8 : a8 = 0
       ·rw [if_pos ⟨h7, h8⟩] at h1 h2
        subst h7 h8
        refine za (vm ?_)
        simp only [wq.down, seval, -Int.reduceNatCast, -Int.reduceNatCast', zg, Tryz.results53, t0, t4, t5, hd, zdm]
        refine ⟨by decide, by decide, zE true 0 9 (fun _ => ?_) (fun h => by cases h)⟩
        simp only [wq.down, seval, -Int.reduceNatCast, -Int.reduceNatCast', zg, Tryz.results53, zX, t0, t4, t5, hd]
        have w1 : IntKind.i64.wrap (a1 + a2) = a1 + a2 := zD (by omega) (by omega)
        have w2 : IntKind.i64.wrap (a1 + a2 + a4) = a1 + a2 + a4 := zD (by omega) (by omega)
        have w3 : IntKind.i64.wrap (a3 + a5) = a3 + a5 := zD (by omega) (by omega)
        have w4 : IntKind.i64.wrap (a3 + a5 + a6) = a3 + a5 + a6 := zD (by omega) (by omega)
        rw [show znm [a0, a1, a2, a3, a4, a5, a6, 0, 0] = (decide (a0 ≤ 4000) && decide (a1 + a2 + a4 ≤ a0) && decide (a3 + a5 + a6 ≤ 4000)) from rfl] at h1 h2
        cases b0 : decide (a0 ≤ 4000) with
        | false =>
         rw [b0] at h2
         refine za (vm ?_)
         simp only [wq.down, seval, -Int.reduceNatCast, -Int.reduceNatCast', zg, Tryz.results53, t0, t4, t5, hd, zdm, b0, w1, w2, w3, w4]
         refine ⟨by decide, zE false 0 8 (fun h => by cases h) (fun _ => ?_)⟩
         simp only [wq.down, seval, -Int.reduceNatCast, -Int.reduceNatCast', zg, Tryz.results53, z8]
         simp only [XE.seq, zau]
         simp only [wq.down, seval, -Int.reduceNatCast, -Int.reduceNatCast', zg, Tryz.results53, hd]
         exact ⟨hk', h2 _ _ rfl _ _⟩
        | true =>
         rw [b0] at h1 h2
         cases b1 : decide (a1 + a2 + a4 ≤ a0) with
         | false =>
          rw [b1] at h2
          refine za (vm ?_)
          simp only [wq.down, seval, -Int.reduceNatCast, -Int.reduceNatCast', zg, Tryz.results53, t0, t4, t5, hd, zdm, b0, b1, w1, w2, w3, w4]
          refine ⟨by decide, by decide, by decide, by decide, by decide, zE false 0 8 (fun h => by cases h) (fun _ => ?_)⟩
          simp only [wq.down, seval, -Int.reduceNatCast, -Int.reduceNatCast', zg, Tryz.results53, z8]
          simp only [XE.seq, zau]
          simp only [wq.down, seval, -Int.reduceNatCast, -Int.reduceNatCast', zg, Tryz.results53, hd]
          exact ⟨hk', h2 _ _ rfl _ _⟩
         | true =>
          rw [b1] at h1 h2
          cases b2 : decide (a3 + a5 + a6 ≤ 4000) with
          | false =>
           rw [b2] at h2
           refine za (vm ?_)
           simp only [wq.down, seval, -Int.reduceNatCast, -Int.reduceNatCast', zg, Tryz.results53, t0, t4, t5, hd, zdm, b0, b1, b2, w1, w2, w3, w4]
           refine ⟨by decide, by decide, by decide, by decide, by decide, by decide, by decide, by decide, zE false 0 8 (fun h => by cases h) (fun _ => ?_)⟩
           simp only [wq.down, seval, -Int.reduceNatCast, -Int.reduceNatCast', zg, Tryz.results53, z8]
           simp only [XE.seq, zau]
           simp only [wq.down, seval, -Int.reduceNatCast, -Int.reduceNatCast', zg, Tryz.results53, hd]
           exact ⟨hk', h2 _ _ rfl _ _⟩
          | true =>
           rw [b2] at h1
           refine za (vm ?_)
           simp only [wq.down, seval, -Int.reduceNatCast, -Int.reduceNatCast', zg, Tryz.results53, t0, t4, t5, hd, zdm, b0, b1, b2, w1, w2, w3, w4]
           refine ⟨by decide, by decide, by decide, by decide, by decide, by decide, by decide, by decide, zE true 0 8 (fun _ => ?_) (fun h => by cases h)⟩
           simp only [wq.down]
           refine za (vm ?_)
           simp only [wq.down, seval, t4, zdm, zpG]
           refine vm ?_
           simp only [wq.down, seval, -Int.reduceNatCast, -Int.reduceNatCast', t4, hd, zdm]
           exact ⟨hk', h1 _ _ rfl⟩
       ·rw [if_neg (fun hh => h8 hh.2)] at h2
        have e8 : (a8 == 0) = false := by simpa using h8
        subst h7
        refine za (vm ?_)
        simp only [wq.down, seval, -Int.reduceNatCast, -Int.reduceNatCast', zg, Tryz.results53, t0, t4, t5, hd, zdm, e8]
        refine ⟨by decide, by decide, zE false 0 9 (fun h => by cases h) (fun _ => ?_)⟩
        simp only [wq.down, z8]
        simp only [XE.seq, zau]
        simp only [wq.down, hd]
        exact ⟨hk', h2 _ _ rfl _ _⟩
      ·rw [if_neg (fun hh => h7 hh.1)] at h2
       have e7 : (a7 == 0) = false := by simpa using h7
       refine za (vm ?_)
       simp only [wq.down, seval, -Int.reduceNatCast, -Int.reduceNatCast', zg, Tryz.results53, t0, t4, t5, hd, zdm, e7]
       refine ⟨by decide, zE false 0 9 (fun h => by cases h) (fun _ => ?_)⟩
       simp only [wq.down, z8]
       simp only [XE.seq, zau]
       simp only [wq.down, hd]
       exact ⟨hk', h2 _ _ rfl _ _⟩
     ·unfold zde at h1 h2
      rw [if_neg (by rw [he]; decide)] at h1 h2
      simp only [wq.down, z8]
      simp only [XE.seq, zau]
      simp only [wq.down, hd]
      exact ⟨hk', h2 _ _ rfl _ _⟩
    ·have hb5' : ¬ 5 ≤ l.length := by have := of_decide_eq_false hb5; omega
     rw [if_neg hb5'] at h1 h2
     simp only [wq.down, z8]
     simp only [XE.seq, zau]
     simp only [wq.down, hd]
     exact ⟨hk', h2 _ _ rfl _ _⟩
   ·rw [hL] at h2
    simp only [XE.seq, zau]
    simp only [wq.down, hd]
    exact ⟨hk', h2 w e rfl b X⟩
  ·refine zy ?_
   refine zp (fun mm f h' => ∃ (l : Cl) (a : Nat), mm + l.length = 9 ∧ zd1 s 9 magic.length [] = zd1 s (9 - l.length) a l ∧ a ≤ s.length ∧ (∀ n ∈ l, 0 ≤ n ∧ n ≤ 2147483647) ∧ f.t 0 = .lp k 0 ∧ f.t 4 = .lp h.length 0 ∧ f.t 5 = vi l.length ∧ f.d = [] ∧ (∀ j, f.k j = true → False) ∧ h' = hR k s a T h [.cells ((hd9 l).map vi)]) 9 ⟨[], magic.length, rfl, rfl, hml, (fun n hn => by cases hn), by simp only [wq.down, seval], by simp only [wq.down, seval], rfl, rfl, (fun j hj => by cases hj), rfl⟩ ?_
   rintro mm f h' ⟨l, a, hm, hL, has, hlb, t0, t4, t5, hd, hk', rfl⟩
   by_cases hl9 : l.length < 9
   ·have e1 : decide ((l.length : Int) < 9) = true := by simp; omega
    obtain ⟨j, hj⟩ : ∃ j, 9 - l.length = j + 1 := ⟨8 - l.length, by omega⟩
    rw [hj, show zd1 s (j + 1) a l = (if zen s a 32 = true then (match zf0 s (a + 1) with
     | .ok (n, b) => zd1 s j b (l ++ [n])
     | .error e => .error e) else .ok (l, a)) from rfl] at hL
    refine za ?_
    refine vm ?_
    simp only [wq.down, seval, t0, t5, e1]
    refine zit 32 (zjA hkl) ?_
    simp only [wq.down, seval]
    cases hi : zen s a 32 with
    | true =>
     have hlt := zfC hi
     have hw := zi (show a < maxLen by omega)
     have hwl := zi (show l.length < maxLen by omega)
     rw [if_pos hi] at hL
     simp only [wq.down]
     refine za (zy ?_)
     refine za (vm ?_)
     simp only [wq.down, seval, t0, zjA hkl, zkd hkl, hw]
     refine vm ?_
     simp only [wq.down, seval, t0, t5]
     refine zd2 hs (zjA hkl) (fun n b hn => ?_) (fun hn => ?_)
     ·rw [hn] at hL
      have hnn := zjz hn
      rw [zkd hkl]
      have hb : b ≤ s.length := zno hn
      simp only [wq.down, seval, t4, zdm]
      refine ⟨⟨by omega, by omega⟩, by rw [zhi (by omega)]; omega, ?_⟩
      refine vm ?_
      simp only [wq.down, seval, t5, hwl, zpG]
      rw [zqL hl9]
      refine .inl ⟨mm - 1, by omega, l ++ [n], b, by rw [List.length_append, List.length_singleton]; omega, ?_, hb, ?_, by simp only [wq.down, seval, t0], by simp only [wq.down, seval, t4], by simp only [wq.down, ↓reduceIte], by simp only [wq.down, hd], hk', rfl⟩
      ·rw [hL, List.length_append, List.length_singleton, show 9 - (l.length + 1) = j by omega]
      ·intro x hx
       rcases List.mem_append.1 hx with h | h
       ·exact hlb x h
       ·rw [List.mem_singleton] at h; subst h; exact hnn
     ·rw [hn] at hL
      simp only [wq.down, z8, hd]
      simp only [XE.block, XE.seq]
      simp only [wq.down, seval, hd]
      exact .inr ⟨_, _, rfl, hL, hk', _, _, rfl⟩
    | false =>
     rw [if_neg (by rw [hi]; decide)] at hL
     simp only [wq.down, seval, t0, t4, t5, hd]
     exact .inl ⟨l, a, hL, has, by omega, hlb, rfl, hk', rfl⟩
   ·have e1 : decide ((l.length : Int) < 9) = false := by simp; omega
    have hl : l.length = 9 := by omega
    rw [hl] at hL
    refine za ?_
    refine vm ?_
    simp only [wq.down, seval, t0, t5, e1]
    refine ⟨.bool true, ?_⟩
    simp only [wq.down, seval, t0, t4, t5, hd]
    exact .inl ⟨l, a, hL, has, by omega, hlb, rfl, hk', rfl⟩
 ·rw [if_neg (by rw [hb]; decide)] at h2
  simp only [wq.down, z8]
  simp only [XE.seq, zau]
  simp only [wq.down]
  exact h2 _ _ rfl _ _
theorem zfO {s : S} {k : Nat} {h : H} {K : H → (Nat → Bool) → Prop} (hK : ∀ X, K (h ++ [X]) (fun _ => false)) : zba TE 52 [.str s, .lp k 0] h K := by
 have hgE : ∀ x : O, (h ++ [x])[h.length]? = some x := fun x => by simp
 have hgS : ∀ x y : O, (h ++ [x]).set h.length y = h ++ [y] := fun x y => by simp
 refine zb2 rfl Tryz.func52 rfl rfl (by simp [nts]) rfl (fun ev w => rfl) rfl (by decide) ?_
 simp only [nts]
 refine zap rfl rfl ?_
 refine zbE (x := .tmp 7) (t := 153) (q := ⟨.struct [(0, 3), (1, 31)], 2, 16, .agg [vi 0, vi 0]⟩) rfl (by simp only [wq.down]) (by simp only [wq.down, ↓reduceIte]) (by simp only [wq.down, ↓reduceIte]) ?_
 refine zm rfl rfl ?_
 simp only [wq.down, ↓reduceIte]
 refine zm rfl rfl ?_
 simp only [wq.down, seval]
 refine zm rfl rfl ?_
 simp only [wq.down, seval]
 refine zm rfl rfl ?_
 simp only [wq.down]
 refine zm rfl rfl ?_
 simp only [wq.down, seval, hgE, hgS]
 refine zm rfl rfl ?_
 simp only [wq.down, seval]
 refine zak ?_
 show awp _ _ _ _ _ _ _
 refine vm ?_
 simp only [wq.down, seval]
 exact hK _
theorem zfP {s : S} {k : Nat} {h : H} {d1 d2 d3 : V} {K : H → (Nat → Bool) → Prop} (a : Nat) (e : Int) (hs : s.length ≤ 1000000000) (hk : h[k]? = some (.cells [d1, d2, d3])) (hK : ∀ X, K (h.set k (.cells (zP s a e).vc) ++ [X]) (fun _ => false)) :
 zcq TE 52 [.str s, .lp k 0] (zeu a e) h K := by
 have hgE : ∀ x : O, (h ++ [x])[h.length]? = some x := fun x => by simp
 have hgS : ∀ x y : O, (h ++ [x]).set h.length y = h ++ [y] := fun x y => by simp
 have hkl : k < h.length := (List.getElem?_eq_some_iff.1 hk).1
 have hgk : ∀ x : O, (h ++ [x])[k]? = some (.cells [d1, d2, d3]) := fun x => by rw [List.getElem?_append_left hkl]; exact hk
 have hsk : ∀ x y : O, (h ++ [x]).set k y = h.set k y ++ [x] := fun x y => by rw [List.set_append_left _ _ hkl]
 refine zb0 rfl Tryz.func52 rfl rfl (by simp [nts]) rfl (fun ev w => rfl) rfl (by decide) ?_
 simp only [nts]
 refine zm rfl rfl ?_
 simp only [wq.down, ↓reduceIte]
 refine ⟨by decide, ?_⟩
 refine zm rfl rfl ?_
 simp only [wq.down, ↓reduceIte]
 refine zm rfl rfl ?_
 simp only [wq.down, seval]
 refine zm rfl rfl ?_
 simp only [wq.down, seval]
 refine zm rfl rfl ?_
 simp only [wq.down]
 refine zm rfl rfl ?_
 simp only [wq.down, seval, hgE, hgS]
 refine zm rfl rfl ?_
 simp only [wq.down, seval]
 refine zak ?_
 show awp _ _ _ _ _ _ _
 have hf : ∃ x y z, zP s a e = .agg [vi x, vi y, vi z] := by unfold zP; split <;> exact ⟨_, _, _, rfl⟩
 obtain ⟨x, y, z, hf⟩ := hf
 rw [hf] at hK
 have hsf := zj3 s a e hs
 rw [hf] at hsf
 refine za (vm ?_)
 simp only [wq.down, seval]
 refine vm ?_
 simp only [wq.down, seval, hgE]
 refine zb.ev hsf rfl ?_
 simp only [wq.down, seval, hgk, hsk]
 exact hK _
theorem zga {k a : Nat} {s : S} {T : List V} {h : H} {R : AEnd → H → (Nat → Bool) → Prop} (ha : a ≤ s.length) (hk : h[k]? = some (rdT s a T))
 (hr : R (.ret (.bool (zqJ s a))) h (fun _ => false)) : zb TE 64 [.lp k 0] h R := by
 have hp := zm6 (s.drop a) [99, 10]
 unfold zqJ at hr
 cases hb : ([99, 10] : S).isPrefixOf (s.drop a) with
 | true =>
  rw [hb] at hp hr
  refine zl Tryz.func64 rfl (by simp [nts]) (vm ?_)
  simp only [wq.down, seval, Tryz.results64, hk]
  refine ⟨by decide +kernel, ⟨by omega, by omega⟩, zeb.mk hp rfl rfl ?_⟩
  simp only [wq.down, seval, hk]
  exact hr
 | false =>
  rw [hb] at hp hr
  refine zl Tryz.func64 rfl (by simp [nts]) (vm ?_)
  simp only [wq.down, seval, Tryz.results64, hk]
  refine ⟨by decide +kernel, ⟨by omega, by omega⟩, zeb.mk hp rfl rfl ?_⟩
  simp only [wq.down, seval, hk]
  exact ⟨⟨by omega, by omega⟩, hr⟩
theorem zhk (c : UInt8) : ∀ l : S, Lib.indexByte l c = (match l.findIdx? (· == c) with | some i => (i : Int) | none => -1)
 | [] => rfl
 | b :: l => by
  unfold Lib.indexByte
  rw [List.findIdx?_cons, zhk c l]
  by_cases hb : (b == c) = true
  ·rw [if_pos hb, if_pos hb]
   rfl
  ·rw [if_neg hb, if_neg hb]
   cases h : l.findIdx? (· == c) with
   | none => rfl
   | some i =>
    show (if ((i : Int) == -1) = true then (-1 : Int) else (i : Int) + 1) = _
    rw [if_neg (by simp)]
    rfl
theorem znp {c : UInt8} (h : zpE c = none) : Lib.indexByte [105, 108, 111, 98, 99] c = -1 := by
 unfold zpE at h
 rw [zhk, h]
theorem ziw {c : UInt8} {k : Nat} (h : zpE c = some k) : Lib.indexByte [105, 108, 111, 98, 99] c = k ∧ k < 5 := by
 unfold zpE at h
 rw [zhk, h]
 exact ⟨rfl, (List.findIdx?_eq_some_iff_getElem.1 h).1⟩
abbrev rwS (L : List (List S)) (k : Nat) : O := .cells ((L.getD k []).map V.str)
abbrev lsS (L : List (List S)) (k : Nat) : V := .ls (3 + k) 1 0 (L.getD k []).length (L.getD k []).length
abbrev hS (many : Cl) (s : S) (a : Nat) (L : List (List S)) : H :=
 [.cells (many.map vi), .cells [lsS L 0, lsS L 1, lsS L 2, lsS L 3, lsS L 4], .cells [vi 0, vi 0, vi 0], rwS L 0, rwS L 1, rwS L 2, rwS L 3, rwS L 4, rdT s a []]
theorem zsf {L : List (List S)} (h : L.length = 5) : ∃ l0 l1 l2 l3 l4, L = [l0, l1, l2, l3, l4] := by
 match L, h with
 | [l0, l1, l2, l3, l4], _ => exact ⟨_, _, _, _, _, rfl⟩
theorem zqM {L : List (List S)} {k : Nat} (hk : k < 5) : [lsS L 0, lsS L 1, lsS L 2, lsS L 3, lsS L 4].getD (k * 1) V.any = lsS L k := by
 rcases k with _|_|_|_|_|k <;> first | rfl | omega
theorem zpH {many : Cl} {s : S} {a : Nat} {L : List (List S)} {k : Nat} (hk : k < 5) : (hS many s a L)[3 + k]? = some (rwS L k) := by
 rcases k with _|_|_|_|_|k <;> first | rfl | omega
theorem zpI {many : Cl} {s : S} {a : Nat} {L : List (List S)} {k N : Nat} {nm : S} (hL : L.length = 5) (hk : k < 5) : (hS many s a L).set (3 + k) (.cells (((L.getD k []).set N nm).map V.str)) = hS many s a (L.set k ((L.getD k []).set N nm)) := by
 obtain ⟨l0, l1, l2, l3, l4, rfl⟩ := zsf hL
 rcases k with _|_|_|_|_|k
 ·simp [hS, lsS, rwS]
 ·simp [hS, lsS, rwS]
 ·simp [hS, lsS, rwS]
 ·simp [hS, lsS, rwS]
 ·simp [hS, lsS, rwS]
 ·omega
theorem znq {l : List S} {N : Nat} {nm : S} (h : N < l.length) : List.take (N * 1) (l.map V.str) ++ [V.str nm] ++ List.drop (N * 1 + 1) (l.map V.str) = (l.set N nm).map V.str := by
 rw [List.map_set, List.set_eq_take_append_cons_drop, if_pos (by rw [List.length_map]; omega), Nat.mul_one]
 simp
def znr : Plan := .take 0 <| .take 2 <| .take 3 <| .take 4 <| .alt 1 (.one 5 <| .one 6 <| .fin) (.one 5 (.one 1 <| .one 6 <| .fin))
set_option maxHeartbeats 4000000 in
theorem zjB {many : Cl} {s : S} {L : List (List S)} {a : Nat} (hL : L.length = 5) (hLb : ∀ l ∈ L, l.length ≤ 4000) (hs : s.length ≤ 100000) (ha : a < s.length) {R : AEnd → H → (Nat → Bool) → Prop}
 (h1 : ∀ L' b, zfM s L a = .ok (L', b) → R (.ret (.tup [])) (hS many s b L') (fun _ => false))
 (h2 : ∀ (w : Nat) (e : Int), zfM s L a = .error (w, e) → ∀ b, R (.pan (zeu w e)) (hS many s b L) (fun _ => false)) : zb TE 65 [.lp 8 0, .lp 1 0] (hS many s a L) R := by
 have hM : maxLen = 9223372036854775807 := rfl
 have hga : s.getD a 0 = s[a] := zw ha
 have hib := zr0 [105, 108, 111, 98, 99] (s[a].toNat) (UInt8.toNat_lt _)
 rw [UInt8.ofNat_toNat] at hib
 unfold zfM at h1 h2
 rw [hga] at h1 h2
 refine zb.kp (fun _ => false) ?_
 refine zl Tryz.func65 rfl (by simp [nts]) ?_
 refine za (vm ?_)
 simp only [wq.down, seval, Tryz.results65]
 refine za ?_
 refine vm ?_
 simp only [wq.down, seval, hga]
 refine ⟨by decide +kernel, ⟨by omega, by omega⟩, zeb.mk hib rfl rfl ?_⟩
 simp only [wq.down, seval]
 cases hk : zpE s[a] with
 | none =>
  rw [hk] at h2
  rw [znp hk]
  refine za (vm ?_)
  simp only [wq.down, seval]
  refine zE false _ 2 (fun h => by cases h) (fun _ => ?_)
  simp only [wq.down, Int.reduceNeg, z8]
  simp only [XE.seq, zau]
  simp only [wq.down, Int.reduceNeg]
  exact h2 _ _ rfl _
 | some k =>
  rw [hk] at h1 h2
  dsimp only at h1 h2
  obtain ⟨hki, hk5⟩ := ziw hk
  have hk0 : decide ((0 : Int) ≤ (k : Int)) = true := by simp
  have hw := zi (show a < maxLen by omega)
  rw [hki]
  refine za (vm ?_)
  simp only [wq.down, seval, hk0]
  refine zE true _ 2 (fun _ => ?_) (fun h => by cases h)
  simp only [wq.down]
  refine za (vm ?_)
  simp only [wq.down, seval, hw]
  refine za (vm ?_)
  simp only [wq.down, seval]
  refine za (vm ?_)
  simp only [wq.down, seval]
  refine zd2 (k := 8) (a := a + 1) (s := s) (T := []) hs rfl (fun n b hn => ?_) (fun hn => ?_)
  ·rw [hn] at h1 h2
   dsimp only at h1 h2
   have hnn := zjz hn
   have hbl := zno hn
   simp only [wq.down, seval]
   refine za (vm ?_)
   simp only [wq.down, seval]
   refine ziu (k := 8) (s := s) (a := b) (T := []) (by omega) rfl (fun hb => ?_) (fun hb => ?_)
   ·unfold zde at h1 h2
    rw [if_pos hb] at h1 h2
    dsimp only at h1 h2
    have hblt := zfC hb
    have hcut := zr1 (s.drop (b + 1)) 10 (by rw [List.length_drop]; omega)
    obtain ⟨nm, hnm⟩ : ∃ nm, nm = (s.drop (b + 1)).takeWhile (· != 10) := ⟨_, rfl⟩
    rw [← hnm] at h1 h2
    simp only [wq.down]
    refine za ?_
    refine vm ?_
    simp only [wq.down, seval]
    rcases zfA 10 (s.drop (b + 1)) with ⟨m1, m2, m3⟩ | ⟨m1, m2⟩
    ·have hcv : zpu (s.drop (b + 1)) 10 = .tup [.str (s.drop (b + 1)), .str [], .bool false] := by unfold zpu; rw [if_pos (by omega)]
     rw [hcv] at hcut
     rw [← hnm] at m3
     have hge : ¬ b + 1 + nm.length < s.length := by rw [m3, List.length_drop]; omega
     rw [if_neg hge] at h2
     refine ⟨by decide +kernel, ⟨by omega, by omega⟩, zeb.mk hcut rfl rfl ?_⟩
     simp only [wq.down, seval]
     refine za (vm ?_)
     simp only [wq.down, seval]
     refine zE false _ 2 (fun h => by cases h) (fun _ => ?_)
     simp only [wq.down, z8]
     simp only [XE.seq, zau]
     simp only [wq.down]
     exact h2 _ _ rfl _
    ·have hcv : zpu (s.drop (b + 1)) 10 = .tup [.str nm, .str ((s.drop (b + 1)).drop (nm.length + 1)), .bool true] := by unfold zpu; rw [if_neg (by omega), hnm]
     rw [hcv] at hcut
     rw [← hnm] at m1 m2
     rw [List.length_drop] at m2
     have hlt : b + 1 + nm.length < s.length := by omega
     rw [if_pos hlt] at h1 h2
     refine ⟨by decide +kernel, ⟨by omega, by omega⟩, zeb.mk hcut rfl rfl ?_⟩
     simp only [wq.down, seval]
     refine za (vm ?_)
     simp only [wq.down, seval]
     refine zE true _ 2 (fun _ => ?_) (fun h => by cases h)
     simp only [wq.down]
     obtain ⟨N, rfl⟩ : ∃ N : Nat, n = N := ⟨n.toNat, by omega⟩
     have hls := zqM (L := L) hk5
     have hrw := zpH (many := many) (s := s) (a := b + 1) (L := L) hk5
     have hset := zpI (many := many) (s := s) (a := b + 1) (L := L) (N := N) (nm := nm) hL hk5
     obtain ⟨l, hl⟩ : ∃ l, l = L.getD k [] := ⟨_, rfl⟩
     have hll : l.length ≤ 4000 := by
      rw [hl, zw (by omega)]; exact hLb _ (List.getElem_mem _)
     unfold rwS at hrw
     unfold lsS at hls
     rw [← hl] at h1 h2 hls hrw hset
     obtain ⟨H, hH⟩ : ∃ H, H = hS many s (b + 1) L := ⟨_, rfl⟩
     have H1 : H[1]? = some (.cells [lsS L 0, lsS L 1, lsS L 2, lsS L 3, lsS L 4]) := by rw [hH]; rfl
     have H8 : H[8]? = some (rdT s (b + 1) []) := by rw [hH]; rfl
     show awp _ _ _ _ _ _ (hS many s (b + 1) L)
     rw [← hH] at hrw hset ⊢
     by_cases hnl : N < l.length
     ·have hnl' : decide ((N : Int) < (l.length : Int)) = true := by simpa using hnl
      rw [if_pos (by omega)] at h1 h2
      rw [Int.toNat_natCast] at h1 h2
      have hsn : (l.map V.str).getD (N * 1) V.any = V.str l[N] := by rw [Nat.mul_one]; simp [List.getD_eq_getElem?_getD, hnl]
      have hgN : l.getD N [] = l[N] := zw hnl
      refine za (vm ?_)
      simp only [wq.down, seval, H1, hls, hnl']
      refine ⟨⟨by omega, by omega⟩, by omega, ?_⟩
      refine zE true _ 1 (fun _ => ?_) (fun h => by cases h)
      simp only [wq.down]
      have hnmE := zjY nm
      refine za (zaG mixed znr (fun f' h' => zbH nm = true ∧ f'.t 0 = .lp 8 0 ∧ f'.t 1 = .lp 1 0 ∧ f'.t 4 = vi a ∧ f'.t 5 = vi k ∧ f'.t 7 = vi N ∧ f'.t 8 = .str nm ∧ f'.d = [] ∧ (∀ j, f'.k j = true → False) ∧ h' = H) [] (fun v d kk t h' => d = [] ∧ (∀ j, kk j = true → False) ∧ zbH nm = false ∧ v = zeu ((b + 1 : Nat) : Int) 4 ∧ h' = H) (by decide +kernel) (by decide +kernel) ?_ ?_ ?_)
      ·simp only [wq.down, seval, znr, H8]
       repeat' apply And.intro
       all_goals
        refine zb.ev hnmE rfl ?_
        simp only [wq.down, seval, H8]
        refine zE _ _ 4 (fun hb => ?_) (fun hb => ?_)
        ·simp only [wq.down, seval, zaH]
         exact hb
        ·simp only [wq.down, z8, zbF]
         exact hb
      ·rintro f' h' ⟨hok, t0, t1, t4, t5, t7, t8, hd, hkk, rfl⟩
       show awp _ _ _ _ _ _ _
       rw [if_pos hok, hgN] at h1 h2
       refine za (vm ?_)
       simp only [wq.down, seval, H1, hls, hrw, hsn, t1, t4, t5, t7]
       refine ⟨⟨by omega, by omega⟩, by omega, ⟨by omega, by omega⟩, by omega, zE _ _ 5 (fun hb => ?_) (fun hb => ?_)⟩
       ·have hb' : l[N] = [] := eq_of_beq hb
        rw [if_pos hb'] at h1
        simp only [wq.down]
        refine za (vm ?_)
        simp only [wq.down, seval, H1, hls, hrw, t1, t5, t7, t8]
        refine ⟨⟨by omega, by omega⟩, by omega, ⟨by omega, by omega⟩, by omega, ?_⟩
        rw [znq hnl, hset]
        have w1 := zi (show nm.length < maxLen by omega)
        have w2 : IntKind.i64.wrap (((b + 1 : Nat) : Int) + ((nm.length + 1 : Nat) : Int)) = ((b + 1 + nm.length + 1 : Nat) : Int) := by rw [zD (by omega) (by omega)]; omega
        refine vm ?_
        simp only [wq.down, seval, t0, t8, hd, w1, w2]
        exact ⟨hkk, h1 _ _ rfl⟩
       ·have hb' : l[N] ≠ [] := by simpa using hb
        rw [if_neg hb'] at h2
        simp only [wq.down, z8]
        simp only [XE.seq, zau]
        simp only [wq.down, hd]
        refine ⟨hkk, ?_⟩
        rw [hH]
        exact h2 _ _ rfl _
      ·rintro v f' h' ⟨hd, hkk, hok, rfl, rfl⟩
       rw [if_neg (by rw [hok]; decide)] at h2
       simp only [XE.seq, zau]
       simp only [wq.down, hd]
       refine ⟨hkk, ?_⟩
       rw [hH]
       exact h2 _ _ rfl _
     ·have hnl' : decide ((N : Int) < (l.length : Int)) = false := by simpa using hnl
      rw [if_neg (by omega)] at h2
      refine za (vm ?_)
      simp only [wq.down, seval, H1, hls, hnl']
      refine ⟨⟨by omega, by omega⟩, by omega, ?_⟩
      refine zE false _ 1 (fun h => by cases h) (fun _ => ?_)
      simp only [wq.down, z8]
      simp only [XE.seq, zau]
      simp only [wq.down]
      rw [hH]
      exact h2 _ _ rfl _
   ·unfold zde at h2
    rw [if_neg (by rw [hb]; decide)] at h2
    simp only [wq.down, z8]
    simp only [XE.seq, zau]
    simp only [wq.down]
    exact h2 _ _ rfl _
  ·rw [hn] at h2
   simp only [wq.down, z8]
   simp only [XE.seq, zau]
   simp only [wq.down]
   exact h2 _ _ rfl _
end Go.Proofs.YtfcpapokknfeeaaGreatDoor
