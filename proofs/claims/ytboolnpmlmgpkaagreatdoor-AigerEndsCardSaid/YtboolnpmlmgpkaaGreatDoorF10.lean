/- Lemmas for the statement of this claim, part F10: they hold with no conditions but those that each one names. -/
import Derived.Test.YtboolnpmlmgpkaaGreatDoorF09
set_option linter.unusedVariables false
set_option maxRecDepth 20000
set_option linter.unusedSimpArgs false
set_option linter.unnecessarySimpa false
namespace Go.Proofs.YtboolnpmlmgpkaaGreatDoor
open Go Go.Proofs Go.Abs
theorem zfU {use : Nat → Bool} {j : Nat} (hu : use j = true) : ∀ {n : Nat}, j < n → ((List.range n).filter use)[zdw use j]? = some j
 | 0, h => by omega
 | n + 1, h => by
  rw [List.range_succ, List.filter_append]
  by_cases hj : j = n
  ·subst hj
   rw [List.getElem?_append_right (show ((List.range j).filter use).length ≤ zdw use j from Nat.le_refl _)]
   show ([j].filter use)[zdw use j - zdw use j]? = _
   rw [Nat.sub_self]
   simp [hu]
  ·have hlt : j < n := by omega
   rw [List.getElem?_append_left (by show zdw use j < zdw use n; exact zhK hlt hu)]
   exact zfU hu hlt
theorem zi8 {use : Nat → Bool} {r : Nat} : ∀ {n : Nat}, r < zdw use n → ∃ i, i < n ∧ use i = true ∧ zdw use i = r
 | 0, h => by simp [zdw] at h
 | n + 1, h => by
  by_cases hr : r < zdw use n
  ·obtain ⟨i, h1, h2, h3⟩ := zi8 hr
   exact ⟨i, by omega, h2, h3⟩
  ·rw [zea] at h
   cases hu : use n with
   | true => rw [hu] at h; simp at h; exact ⟨n, by omega, hu, by omega⟩
   | false => rw [hu] at h; simp at h; omega
theorem zpB {g : Gr} {use : Nat → Bool} {j n : Nat} (hu : use j = true) (hj : j < n) : (zgv g use n)[zdw use j]? = some (reA g.first.toNat use (g.ands.getD j (0, 0)).1, reA g.first.toNat use (g.ands.getD j (0, 0)).2) := by
 unfold zgv
 rw [List.getElem?_map, zfU hu hj]
 rfl
theorem zeE {g : Gr} (h : 0 ≤ g.ins) : (g.vars : Int) = g.first + g.ands.length := by
 have : g.first = 1 + g.ins + g.next.length := rfl
 unfold Gr.vars; omega
def zdo (x : Gr) : Nat → Bool := fun i => (zeR x).getD (x.first + (i : Int)).toNat false
theorem zgM {x : Gr} (hx : x.chk = 0) : zuW x (zdo x) := by
 obtain ⟨_, i0, i1, i2, i3, i4, i5⟩ := zM hx
 have hf := zat i0
 intro i hi hu
 obtain ⟨h1, h2⟩ := zgL hx hi hu
 have key : ∀ w : Nat, (zeR x).getD w false = true → zrM x.first.toNat (zdo x) w := fun w hw => by
  by_cases h : w < x.first.toNat
  ·exact .inl h
  ·refine .inr ?_
   unfold zdo
   rw [show (x.first + ((w - x.first.toNat : Nat) : Int)).toNat = w by omega]
   exact hw
 exact ⟨key _ h1, key _ h2⟩
theorem zpC {x : Gr} {w : Nat} (h : (zeR x).getD w false = true) : w < x.vars := by
 by_cases hw : w < x.vars
 ·exact hw
 ·rw [List.getD_eq_getElem?_getD, List.getElem?_eq_none (by rw [zhI]; omega)] at h
  cases h
set_option maxHeartbeats 2000000 in
theorem zsP {x : Gr} (hx : x.chk = 0) (hga : zhJ x.ands) : ∀ (k w : Nat), w + k = x.vars → (zeR x).getD w false = true →
 (zeR (zbp x (zL x (zdo x) x.ands.length))).getD (zen x.first.toNat (zdo x) w) false = true := by
 obtain ⟨_, i0, i1, i2, i3, i4, i5⟩ := zM hx
 have hf := zat i0
 have hv := zeE i0
 have hy := zaP hx (zdo x)
 obtain ⟨e1, e2⟩ := zeD hx hga (zgM hx) x.ands.length (Nat.le_refl _)
 obtain ⟨s, hs⟩ : ∃ s, s = zL x (zdo x) x.ands.length := ⟨_, rfl⟩
 rw [← hs] at e1 e2 hy ⊢
 have yf : (zbp x s).first = x.first := by simp [zbp, Gr.first]
 have yl : (zbp x s).ands.length = zdw (zdo x) x.ands.length := by show s.1.length = _; rw [e1, zfS]
 have hyv : ((zbp x s).vars : Int) = x.first + (zdw (zdo x) x.ands.length : Nat) := by rw [zeE (show 0 ≤ (zbp x s).ins from i0), yf, yl]
 have live : ∀ w : Nat, (zeR x).getD w false = true → zrM x.first.toNat (zdo x) w := fun w hw => by
  by_cases h : w < x.first.toNat
  ·exact .inl h
  ·refine .inr ?_
   unfold zdo
   rw [show (x.first + ((w - x.first.toNat : Nat) : Int)).toNat = w by omega]
   exact hw
 intro k
 induction k using Nat.strongRecOn with
 | ind k ih =>
  intro w hk hw
  have hwv := zpC hw
  have hl := live w hw
  have hnum : zen x.first.toNat (zdo x) w < (zbp x s).vars := by
   unfold zen
   split
   ·omega
   ·rcases hl with hl | hl
    ·omega
    ·have := zhK (use := zdo x) (j := w - x.first.toNat) (k := x.ands.length) (by omega) hl
     omega
  rcases zsO hx hw with ⟨a, ha, hwa⟩ | ⟨j, hj, hjl, hop⟩
  ·have hc : zai s.2 a = reA x.first.toNat (zdo x) a := zfc (by rw [hwa]; exact e2 w (by omega) hl)
   refine zpA (a := zai s.2 a) ?_ ?_ hnum
   ·show zai s.2 a ∈ x.next.map (zai s.2) ++ x.outs.map (zai s.2)
    rw [← List.map_append]
    exact List.mem_map_of_mem ha
   ·rw [hc]; unfold reA; rw [hwa]; omega
  ·obtain ⟨o1, o2, o3, o4⟩ := zas i5 hj
   have huj : zdo x j = true := hjl
   have ihj := ih (x.vars - (x.first.toNat + j)) (by rcases hop with h | h <;> omega) (x.first.toNat + j) (by omega) (by rw [show x.first.toNat + j = (x.first + (j : Int)).toNat by omega]; exact hjl)
   have hnj : zen x.first.toNat (zdo x) (x.first.toNat + j) = x.first.toNat + zdw (zdo x) j := by
    unfold zen
    rw [if_neg (by omega), Nat.add_sub_cancel_left]
   rw [hnj] at ihj
   have hrj := zhK hj huj
   have hri : zdw (zdo x) j < (zbp x s).ands.length := by rw [yl]; exact hrj
   have hgt : (zbp x s).ands[zdw (zdo x) j] = (reA x.first.toNat (zdo x) x.ands[j].1, reA x.first.toNat (zdo x) x.ands[j].2) := by
    have := zpB (g := x) huj hj
    rw [← e1, zA hj] at this
    exact (List.getElem?_eq_some_iff.1 this).2
   have hle := zgL hy hri (by rw [yf, show (x.first + ((zdw (zdo x) j : Nat) : Int)).toNat = x.first.toNat + zdw (zdo x) j by omega]; exact ihj)
   rw [hgt] at hle
   dsimp only at hle
   rcases hop with h | h
   ·have := hle.1
    unfold reA at this
    rw [h, show ((2 * (zen x.first.toNat (zdo x) w : Int) + x.ands[j].1 % 2) / 2).toNat = zen x.first.toNat (zdo x) w by omega] at this
    exact this
   ·have := hle.2
    unfold reA at this
    rw [h, show ((2 * (zen x.first.toNat (zdo x) w : Int) + x.ands[j].2 % 2) / 2).toNat = zen x.first.toNat (zdo x) w by omega] at this
    exact this
theorem zkF {x : Gr} (hx : x.chk = 0) (hga : zhJ x.ands) : zdM (zbp x (zL x (zdo x) x.ands.length)) = true := by
 obtain ⟨_, i0, i1, i2, i3, i4, i5⟩ := zM hx
 have hf := zat i0
 have hv := zeE i0
 obtain ⟨e1, e2⟩ := zeD hx hga (zgM hx) x.ands.length (Nat.le_refl _)
 have hgd := zdj i0 (zdo x) x.ands.length
 have hled := zsP hx hga
 obtain ⟨s, hs⟩ : ∃ s, s = zL x (zdo x) x.ands.length := ⟨_, rfl⟩
 rw [← hs] at e1 hgd hled ⊢
 have yl : s.1.length = zdw (zdo x) x.ands.length := by rw [e1, zfS]
 have yf : (zbp x s).first = x.first := by simp [zbp, Gr.first]
 unfold zdM
 rw [Bool.not_eq_true', List.any_eq_false]
 intro r hr
 rw [List.mem_range] at hr
 have hr : r < s.1.length := hr
 obtain ⟨a1, a2, a3⟩ := hgd.1 _ (List.getElem_mem hr)
 obtain ⟨i, hi, hui, hri⟩ := zi8 (show r < zdw (zdo x) x.ands.length by rw [← yl]; exact hr)
 have hl := hled (x.vars - (x.first.toNat + i)) (x.first.toNat + i) (by omega) (by rw [show x.first.toNat + i = (x.first + (i : Int)).toNat by omega]; exact hui)
 have hn : zen x.first.toNat (zdo x) (x.first.toNat + i) = (x.first + (r : Int)).toNat := by
  unfold zen
  rw [if_neg (by omega), Nat.add_sub_cancel_left, hri]
  omega
 rw [hn] at hl
 unfold zuV
 rw [show (zbp x s).ands = s.1 from rfl, yf, zA hr, hl]
 have d1 : decide (s.1[r].1 ≤ s.1[r].2) = false := by simp; omega
 have d2 : decide (s.1[r].2 ≤ 1) = false := by simp; omega
 have d3 : (s.1[r].1 / 2 == s.1[r].2 / 2) = false := by simpa using a3
 have d5 : ((s.1.take r).any (· == s.1[r])) = false := by
  rw [List.any_eq_false]
  intro p hp hpe
  have hpe : p = s.1[r] := by simpa using hpe
  obtain ⟨j, hj, rfl⟩ := List.mem_iff_getElem.1 hp
  rw [List.length_take] at hj
  rw [List.getElem_take] at hpe
  have := (List.getElem_inj hgd.2).1 hpe
  omega
 dsimp only
 rw [d1, d2, d3, d5]
 decide
theorem zeS {g : Gr} (hg : g.chk = 0) : zdM (zch g) = true :=
 zkF (zaP hg _) (zdj (zM hg).i0 _ _)
def lnG : Cl → S
 | [] => [10]
 | n :: l => 32 :: (Lib.itoa n ++ lnG l)
def lnT : Cl → S
 | [] => [10]
 | n :: l => Lib.itoa n ++ lnG l
def nmT (c : UInt8) : Nat → List S → S
 | _, [] => []
 | i, s :: l => c :: (Lib.itoa i ++ 32 :: (s ++ 10 :: nmT c (i + 1) l))
def zb7 (m : Mo) : S := nmT 105 0 m.ins ++ (nmT 108 0 m.lat ++ nmT 111 0 m.out)
def znW (g : Gr) (i : Nat) : Cl := 2 * (1 + g.ins + (i : Int)) :: g.next.getD i 0 :: (if g.init.getD i 0 = 0 then [] else if g.init.getD i 0 = 1 then [1] else [2 * (1 + g.ins + (i : Int))])
def zaY (g : Gr) : Cl := [g.first - 1 + (g.ands.length : Int), g.ins, (g.next.length : Int), (g.outs.length : Int), (g.ands.length : Int)]
def ztW (n : Nat) : S := (List.range n).flatMap fun i : Nat => lnT [2 * ((i : Int) + 1)]
def zi9 (g : Gr) (n : Nat) : S := (List.range n).flatMap fun i : Nat => lnT (znW g i)
def zja (l : Cl) (n : Nat) : S := (List.range n).flatMap fun i : Nat => lnT [l.getD i 0]
def zjb (g : Gr) (n : Nat) : S := (List.range n).flatMap fun i : Nat => lnT [2 * (g.first + (i : Int)), (g.ands.getD i (0, 0)).1, (g.ands.getD i (0, 0)).2]
def zdp (g : Gr) : S := [97, 97, 103, 32] ++ (lnT (zaY g) ++ (ztW g.ins.toNat ++ (zi9 g g.next.length ++ (zja g.outs g.outs.length ++ zjb g g.ands.length))))
def zbJ (m : Mo) : S := zdp m.g ++ zb7 m
def zc6 (m : Mo) : S × Int := if m.chk = 0 then (zbJ m.norm, 0) else ([], m.chk)
abbrev RE (α : Type) := Except (Nat × Int) α
def ze1 (s : S) (a : Nat) : RE (Int × Nat) := if (zh4 s a).2.2 = 0 then .ok ((zh4 s a).1, (zh4 s a).2.1.toNat) else .error (a, 3)
def zfV (s : S) (c : UInt8) (a : Nat) : RE Nat := if zfL s a c = true then .ok (a + 1) else .error (a, 2)
def zdq (s : S) : Nat → Nat → Cl → RE (Cl × Nat)
 | 0, a, l => .ok (l, a)
 | k + 1, a, l => if zfL s a 32 = true then (match ze1 s (a + 1) with
  | .ok (n, b) => zdq s k b (l ++ [n])
  | .error e => .error e) else .ok (l, a)
def hd9 (l : Cl) : Cl := l ++ List.replicate (9 - l.length) 0
def zhM (h : Cl) : Bool := decide (h.getD 0 0 ≤ 4000) && decide (h.getD 1 0 + h.getD 2 0 + h.getD 4 0 ≤ h.getD 0 0) && decide (h.getD 3 0 + h.getD 5 0 + h.getD 6 0 ≤ 4000)
def ze2 (s magic : S) : RE (Cl × Nat) :=
 if magic.isPrefixOf s = true then (match zdq s 9 magic.length [] with
  | .ok (l, a) => if 5 ≤ l.length then (match zfV s 10 a with
   | .ok b => if (hd9 l).getD 7 0 = 0 ∧ (hd9 l).getD 8 0 = 0 then if zhM (hd9 l) = true then .ok (hd9 l, b) else .error (0, 8) else .error (0, 9)
   | .error e => .error e) else .error (a, 2)
  | .error e => .error e) else .error (0, 2)
abbrev Us := Int × Nat
structure An where
 lit : Int
 pos : Nat
 p : Us
 q : Us
structure Fi where
 a : Nat
 D : Cl
 ins : Cl
 lats : Cl
 next : List Us
 init : Cl
 outs : List Us
 ands : List An
def zlq (s : S) (mo : Int) (x : Fi) : RE (Int × Fi) :=
 match ze1 s x.a with
 | .error e => .error e
 | .ok (n, b) => if n % 2 = 0 ∧ 2 ≤ n ∧ n ≤ mo then if n / 2 ∈ x.D then .error (x.a, 5) else .ok (n, { x with a := b, D := x.D ++ [n / 2] }) else .error (x.a, 1)
def zh5 (s : S) (mo : Int) (x : Fi) : RE (Us × Fi) :=
 match ze1 s x.a with
 | .error e => .error e
 | .ok (n, b) => if n ≤ mo then .ok ((n, x.a), { x with a := b }) else .error (x.a, 1)
def zaK (s : S) (c : UInt8) (x : Fi) : RE Fi := if zfL s x.a c = true then .ok { x with a := x.a + 1 } else .error (x.a, 2)
def za6 (s : S) (mo : Int) (x : Fi) : RE Fi :=
 match zlq s mo x with
 | .error e => .error e
 | .ok (n, y) => zaK s 10 { y with ins := y.ins ++ [n] }
def zee (s : S) (lit : Int) (x : Fi) : RE (Int × Fi) :=
 if zfL s x.a 32 = true then (match ze1 s (x.a + 1) with
  | .error e => .error e
  | .ok (n, b) => if n < 2 ∨ n = lit then .ok (n, { x with a := b }) else .error (x.a + 1, 1)) else .ok (0, x)
def za7 (s : S) (mo : Int) (x : Fi) : RE Fi :=
 match zlq s mo x with
 | .error e => .error e
 | .ok (lit, y) => match zaK s 32 y with
  | .error e => .error e
  | .ok y => match zh5 s mo y with
   | .error e => .error e
   | .ok (u, y) => match zee s lit { y with next := y.next ++ [u] } with
    | .error e => .error e
    | .ok (n, y) => zaK s 10 { y with lats := y.lats ++ [lit], init := y.init ++ [min n 2] }
def zap (s : S) (mo : Int) (x : Fi) : RE Fi :=
 match zh5 s mo x with
 | .error e => .error e
 | .ok (u, y) => zaK s 10 { y with outs := y.outs ++ [u] }
def zcO (s : S) (mo : Int) (x : Fi) : RE Fi :=
 match zlq s mo x with
 | .error e => .error e
 | .ok (lit, y) => match zaK s 32 y with
  | .error e => .error e
  | .ok y => match zh5 s mo y with
   | .error e => .error e
   | .ok (p, y) => match zaK s 32 y with
    | .error e => .error e
    | .ok y => match zh5 s mo y with
     | .error e => .error e
     | .ok (q, y) => match zaK s 10 y with
      | .error e => .error e
      | .ok y => .ok { y with ands := y.ands ++ [⟨lit, x.a, p, q⟩] }
def zb9 (f : Fi → RE Fi) : Nat → Fi → RE Fi
 | 0, x => .ok x
 | n + 1, x => match f x with
  | .error e => .error e
  | .ok y => zb9 f n y
def znF (c : UInt8) : Option Nat := [(105 : UInt8), 108, 111, 98, 99].findIdx? (· == c)
def zpD (s : S) (a : Nat) : Bool := ([99, 10] : S).isPrefixOf (s.drop a) || s.drop a == [99]
def zeF (s : S) (L : List (List S)) (a : Nat) : RE (List (List S) × Nat) :=
 match znF (s.getD a 0) with
 | none => .error (a, 2)
 | some k => match ze1 s (a + 1) with
  | .error e => .error e
  | .ok (n, b) => match zfV s 32 b with
   | .error e => .error e
   | .ok b =>
    if b + ((s.drop b).takeWhile (· != 10)).length < s.length then
     if n < ((L.getD k []).length : Int) then
      if zba ((s.drop b).takeWhile (· != 10)) = true then
       if (L.getD k []).getD n.toNat [] = [] then .ok (L.set k ((L.getD k []).set n.toNat ((s.drop b).takeWhile (· != 10))), b + ((s.drop b).takeWhile (· != 10)).length + 1) else .error (a, 5)
      else .error (b, 4)
     else .error (a + 1, 1)
    else .error (s.length, 2)
def zeo (s : S) : Nat → List (List S) → Nat → RE (List (List S))
 | 0, L, _ => .ok L
 | k + 1, L, a => if a < s.length ∧ zpD s a = false then (match zeF s L a with
  | .error e => .error e
  | .ok (L, b) => zeo s k L b) else .ok L
def zbt (c : UInt8) : Nat → List S → List S
 | _, [] => []
 | i, x :: l => (if x = [] then c :: Lib.itoa i else x) :: zbt c (i + 1) l
def zfW (L : List (List S)) : List (List S) := [zbt 105 0 (L.getD 0 []), zbt 108 0 (L.getD 1 []), zbt 111 0 (L.getD 2 []), zbt 98 0 (L.getD 3 []), zbt 99 0 (L.getD 4 [])]
def zc7 (many : Cl) : List (List S) := many.map fun n => List.replicate (min (max n 0) 4000).toNat []
def zgm (s : S) (many : Cl) (a : Nat) : RE (List (List S)) :=
 match zeo s (s.length + 1) (zc7 many) a with
 | .error e => .error e
 | .ok L => .ok (zfW L)
def zau (D : Cl) : List Us → Option (Nat × Int)
 | [] => none
 | u :: l => if u.1 / 2 ∈ D then zau D l else some (u.2, 6)
def An.nil : An := ⟨0, 0, (0, 0), (0, 0)⟩
def zaZ (A : List An) : Nat → Nat → Cl → List Nat → List Nat × Cl
 | 0, _, left, out => (out, left)
 | k + 1, i, left, out => if i < A.length then
  if (A.getD i .nil).lit / 2 ∈ left ∧ (A.getD i .nil).p.1 / 2 ∉ left ∧ (A.getD i .nil).q.1 / 2 ∉ left then zaZ A k 0 (left.erase ((A.getD i .nil).lit / 2)) (out ++ [i])
  else zaZ A k (i + 1) left out
  else (out, left)
def toI (D V : Cl) (n : Int) : Int := V.getD (D.idxOf n) 0
def zbS (D V : Cl) (u : Us) : Int := 2 * toI D V (u.1 / 2) + u.1 % 2
def zgN (D : Cl) : Cl → Int → Cl → Cl
 | V, _, [] => V
 | V, k, l :: ls => zgN D (V.set (D.idxOf (l / 2)) k) (k + 1) ls
def Fi.vals (x : Fi) (o : List Nat) : Cl :=
 zgN x.D (zgN x.D (x.D.map fun _ => 0) 1 (x.ins ++ x.lats)) (1 + (x.ins.length : Int) + x.lats.length) (o.map fun k => (x.ands.getD k .nil).lit)
def zbT (x : Fi) (o : List Nat) : Gr :=
 ⟨x.ins.length, x.next.map (zbS x.D (x.vals o)), x.init, o.map fun k => (zbS x.D (x.vals o) (x.ands.getD k .nil).p, zbS x.D (x.vals o) (x.ands.getD k .nil).q), x.outs.map (zbS x.D (x.vals o))⟩
def Fi.start (a : Nat) : Fi := ⟨a, [0], [], [], [], [], [], []⟩
def zfX (s : S) (h : Cl) (a : Nat) : RE Fi :=
 match zb9 (za6 s (2 * h.getD 0 0 + 1)) (h.getD 1 0).toNat (.start a) with
 | .error e => .error e
 | .ok x => match zb9 (za7 s (2 * h.getD 0 0 + 1)) (h.getD 2 0).toNat x with
  | .error e => .error e
  | .ok x => match zb9 (zap s (2 * h.getD 0 0 + 1)) (h.getD 3 0 + h.getD 5 0 + h.getD 6 0).toNat x with
   | .error e => .error e
   | .ok x => zb9 (zcO s (2 * h.getD 0 0 + 1)) (h.getD 4 0).toNat x
def Fi.left (x : Fi) : Cl := x.ands.map fun a => a.lit / 2
def Fi.uses (x : Fi) : List Us := x.ands.flatMap fun a => [a.p, a.q]
def zfY (x : Fi) (N : List (List S)) : RE Mo :=
 match zau x.D x.next with
 | some e => .error e
 | none => match zau x.D x.outs with
  | some e => .error e
  | none => match zau x.D x.uses with
   | some e => .error e
   | none => match zaZ x.ands ((x.ands.length + 1) * (x.ands.length + 1)) 0 x.left [] with
    | (o, left) => match x.ands.find? (fun a => decide (a.lit / 2 ∈ left)) with
     | some a => .error (a.pos, 7)
     | none => if Mo.chk ⟨zbT x o, N.getD 0 [], N.getD 1 [], N.getD 2 [] ++ (N.getD 3 [] ++ N.getD 4 [])⟩ = 0 then .ok ⟨zbT x o, N.getD 0 [], N.getD 1 [], N.getD 2 [] ++ (N.getD 3 [] ++ N.getD 4 [])⟩ else .error (0, Mo.chk ⟨zbT x o, N.getD 0 [], N.getD 1 [], N.getD 2 [] ++ (N.getD 3 [] ++ N.getD 4 [])⟩)
def zaX (s : S) : RE Mo :=
 match ze2 s [97, 97, 103] with
 | .error e => .error e
 | .ok (h, a) => match zfX s h a with
  | .error e => .error e
  | .ok x => match zgm s [h.getD 1 0, h.getD 2 0, h.getD 3 0, h.getD 5 0, h.getD 6 0] x.a with
   | .error e => .error e
   | .ok N => zfY x N
theorem zcC {s : S} {a : Nat} {c : UInt8} {r : S} (h : s.drop a = c :: r) : zfL s a c = true ∧ s.drop (a + 1) = r ∧ a < s.length ∧ (∀ d, d ≠ c → zfL s a d = false) ∧ s.getD a 0 = c := by
 have e : s[a]? = some c := by
  have : s[a]? = (s.drop a)[0]? := by rw [List.getElem?_drop]; rfl
  rw [this, h]; rfl
 refine ⟨?_, ?_, (List.getElem?_eq_some_iff.1 e).1, fun d hd => ?_, ?_⟩
 ·unfold zfL; rw [e]; simp
 ·rw [← List.drop_drop, h]; rfl
 ·unfold zfL
  rw [e]
  cases hx : (some c == some d) with
  | false => rfl
  | true => exact absurd (by simpa using hx) (fun hh : c = d => hd hh.symm)
 ·rw [List.getD_eq_getElem?_getD, e]; rfl
theorem zpE {p : UInt8 → Bool} {l : S} {c : UInt8} {r : S} (h : ∀ x ∈ l, p x = true) (hc : p c = false) : (l ++ c :: r).takeWhile p = l := by
 induction l with
 | nil => simp [hc]
 | cons a l ih => simp only [List.cons_append, List.takeWhile_cons, h a (by simp), if_true]; rw [ih fun x hx => h x (by simp [hx])]
theorem zfZ {s : S} {a : Nat} {n : Int} {c : UInt8} {r : S} (h : s.drop a = Lib.itoa n ++ c :: r) (h0 : 0 ≤ n) (hn : n ≤ 2147483647) (hc : zV c = false) : ∃ b, ze1 s a = .ok (n, b) ∧ s.drop b = c :: r ∧ b = a + (Lib.itoa n).length := by
 obtain ⟨k, rfl⟩ : ∃ k : Nat, n = k := ⟨n.toNat, by omega⟩
 rw [zlg] at h ⊢
 have hl : a < s.length := by
  have h1 := congrArg List.length h
  simp only [List.length_drop, List.length_append, List.length_cons] at h1
  omega
 have htw : (s.drop a).takeWhile zV = Lib.decDigits k := by rw [h]; exact zpE (zuO k) hc
 have hg : zh4 s a = ((k : Int), (a : Int) + ((Lib.decDigits k).length : Int), 0) := by
  unfold zh4
  rw [if_neg (by omega)]
  show (if (s.drop a).takeWhile zV ≠ [] ∧ ztL ((s.drop a).takeWhile zV) then _ else _) = _
  rw [htw, if_pos ⟨zwc k, by unfold ztL; rw [zpd]; exact ⟨by omega, rfl⟩⟩]
  show (((zcQ 0 ((s.drop a).takeWhile zV) : Nat) : Int), (a : Int) + (((s.drop a).takeWhile zV).length : Int), (0 : Int)) = _
  rw [htw, zpd]
 refine ⟨a + (Lib.decDigits k).length, ?_, by rw [← List.drop_drop, h, List.drop_left], rfl⟩
 unfold ze1
 rw [hg, if_pos rfl]
 show Except.ok ((k : Int), ((a : Int) + ((Lib.decDigits k).length : Int)).toNat) = _
 rw [show ((a : Int) + ((Lib.decDigits k).length : Int)).toNat = a + (Lib.decDigits k).length by omega]
theorem zpF : zV 10 = false := by decide
theorem zpG : zV 32 = false := by decide
theorem ztX (l : Cl) : ∃ c r, lnG l = c :: r ∧ zV c = false := by
 cases l with
 | nil => exact ⟨10, [], rfl, zpF⟩
 | cons n l => exact ⟨32, _, rfl, zpG⟩
theorem zlr {s : S} : ∀ (l : Cl) (k a : Nat) (acc : Cl) (r : S), (∀ n ∈ l, 0 ≤ n ∧ n ≤ 2147483647) → l.length ≤ k → s.drop a = lnG l ++ r → ∃ b, zdq s k a acc = .ok (acc ++ l, b) ∧ s.drop b = 10 :: r
 | [], k, a, acc, r, _, hk, h => by
  have h' : s.drop a = 10 :: r := h
  refine ⟨a, ?_, h'⟩
  cases k with
  | zero => unfold zdq; rw [List.append_nil]
  | succ k =>
   unfold zdq
   rw [if_neg (by rw [(zcC h').2.2.2.1 32 (by decide)]; decide), List.append_nil]
 | n :: l, k, a, acc, r, hl, hk, h => by
  obtain ⟨k, rfl⟩ : ∃ j, k = j + 1 := ⟨k - 1, by simp at hk; omega⟩
  have h' : s.drop a = 32 :: (Lib.itoa n ++ (lnG l ++ r)) := by rw [h]; simp [lnG]
  obtain ⟨a1, a2, _⟩ := zcC h'
  obtain ⟨c, r', e, hc⟩ := ztX l
  have h2 := a2
  rw [e, List.cons_append] at h2
  obtain ⟨b, hb, hd, _⟩ := zfZ h2 (hl n (by simp)).1 (hl n (by simp)).2 hc
  obtain ⟨b', hb', hd'⟩ := zlr l k b (acc ++ [n]) r (fun x hx => hl x (by simp [hx])) (by simp at hk; omega) (by rw [hd, e]; rfl)
  refine ⟨b', ?_, hd'⟩
  unfold zdq
  rw [if_pos a1, hb]
  dsimp only
  rw [hb', List.append_assoc]
  rfl
theorem zw9 (l : Cl) (h : l ≠ []) : 32 :: lnT l = lnG l := by
 cases l with
 | nil => exact absurd rfl h
 | cons n l => rfl
theorem zsQ {s magic : S} {l : Cl} {r : S} (h : s = magic ++ (lnG l ++ r)) (hl : ∀ n ∈ l, 0 ≤ n ∧ n ≤ 2147483647) (h5 : 5 ≤ l.length) (h7 : l.length ≤ 7) (hlim : zhM (hd9 l) = true) : ∃ b, ze2 s magic = .ok (hd9 l, b) ∧ s.drop b = r := by
 have hd : s.drop magic.length = lnG l ++ r := by rw [h, List.drop_left]
 obtain ⟨b, hb, hb'⟩ := zlr l 9 magic.length [] r hl (by omega) hd
 obtain ⟨a1, a2, _⟩ := zcC hb'
 refine ⟨b + 1, ?_, a2⟩
 unfold ze2
 rw [if_pos (by rw [List.isPrefixOf_iff_prefix, h]; exact List.prefix_append _ _), hb]
 dsimp only
 rw [List.nil_append, if_pos h5]
 unfold zfV
 rw [if_pos a1]
 dsimp only
 have z : ∀ i, 7 ≤ i → i < 9 → (hd9 l).getD i 0 = 0 := fun i h1 h2 => by
  unfold hd9
  rw [List.getD_eq_getElem?_getD, List.getElem?_append_right (by omega), List.getElem?_replicate]
  split <;> rfl
 rw [if_pos ⟨z 7 (by omega) (by omega), z 8 (by omega) (by omega)⟩, if_pos hlim]
theorem zkG {s : S} {mo : Int} {x : Fi} {n : Int} {c : UInt8} {r : S} (h : s.drop x.a = Lib.itoa n ++ c :: r) (hn : n ≤ 2147483647) (hc : zV c = false) (h2 : n % 2 = 0) (h3 : 2 ≤ n) (h4 : n ≤ mo) (h5 : n / 2 ∉ x.D) : ∃ b, zlq s mo x = .ok (n, { x with a := b, D := x.D ++ [n / 2] }) ∧ s.drop b = c :: r := by
 obtain ⟨b, hb, hd, _⟩ := zfZ h (by omega) hn hc
 refine ⟨b, ?_, hd⟩
 unfold zlq
 rw [hb]
 dsimp only
 rw [if_pos ⟨h2, h3, h4⟩, if_neg h5]
theorem zhN {s : S} {mo : Int} {x : Fi} {n : Int} {c : UInt8} {r : S} (h : s.drop x.a = Lib.itoa n ++ c :: r) (h0 : 0 ≤ n) (hn : n ≤ 2147483647) (hc : zV c = false) (h4 : n ≤ mo) : ∃ b, zh5 s mo x = .ok ((n, x.a), { x with a := b }) ∧ s.drop b = c :: r := by
 obtain ⟨b, hb, hd, _⟩ := zfZ h h0 hn hc
 refine ⟨b, ?_, hd⟩
 unfold zh5
 rw [hb]
 dsimp only
 rw [if_pos h4]
theorem zcD {s : S} {x : Fi} {c : UInt8} {r : S} (h : s.drop x.a = c :: r) : zaK s c x = .ok { x with a := x.a + 1 } ∧ s.drop (x.a + 1) = r := by
 obtain ⟨a1, a2, _⟩ := zcC h
 refine ⟨?_, a2⟩
 unfold zaK
 rw [if_pos a1]
theorem zf0 {f : Fi → RE Fi} {n : Nat} {P : Nat → Fi → Prop} (step : ∀ i x, i < n → P i x → ∃ y, f x = .ok y ∧ P (i + 1) y) : ∀ (k i : Nat) (x : Fi), i + k = n → P i x → ∃ y, zb9 f k x = .ok y ∧ P n y
 | 0, i, x, hk, hp => ⟨x, rfl, by rw [← hk]; exact hp⟩
 | k + 1, i, x, hk, hp => by
  obtain ⟨y, hy, hp'⟩ := step i x (by omega) hp
  obtain ⟨z, hz, hq⟩ := zf0 step k (i + 1) y (by omega) hp'
  exact ⟨z, by unfold zb9; rw [hy]; exact hz, hq⟩
def zeG (n : Nat) : Cl := (List.range n).map fun i : Nat => (i : Int)
theorem zef (n : Nat) : zeG (n + 1) = zeG n ++ [(n : Int)] := by unfold zeG; rw [List.range_succ, List.map_append]; rfl
theorem zbU {n : Nat} {k : Int} : k ∈ zeG n ↔ 0 ≤ k ∧ k < n := by
 unfold zeG
 rw [List.mem_map]
 constructor
 ·rintro ⟨i, hi, rfl⟩; have := List.mem_range.1 hi; omega
 ·rintro ⟨h0, h1⟩; exact ⟨k.toNat, List.mem_range.2 (by omega), by omega⟩
theorem zhO (n : Nat) : (zeG n).length = n := by simp [zeG]
def zdN (f : Nat → S) (i n : Nat) : S := (List.range' i (n - i)).flatMap f
theorem zdk {f : Nat → S} {i n : Nat} (h : i < n) : zdN f i n = f i ++ zdN f (i + 1) n := by
 unfold zdN
 rw [show n - i = (n - (i + 1)) + 1 by omega, List.range'_succ, List.flatMap_cons]
theorem zeg {f : Nat → S} {n : Nat} : zdN f n n = [] := by unfold zdN; simp
theorem zeh {f : Nat → S} {n : Nat} : (List.range n).flatMap f = zdN f 0 n := by unfold zdN; rw [List.range_eq_range', Nat.sub_zero]
theorem zf1 {l : Cl} {i : Nat} (h : i < l.length) : l.take (i + 1) = l.take i ++ [l.getD i 0] := by
 rw [List.take_add_one, List.getElem?_eq_getElem h, zA h]; rfl
def PI' (s : S) (n : Nat) (r : S) (i : Nat) (x : Fi) : Prop := s.drop x.a = zdN (fun i : Nat => lnT [2 * ((i : Int) + 1)]) i n ++ r ∧ x.D = zeG (i + 1) ∧ x.ins = (List.range i).map (fun j : Nat => 2 * ((j : Int) + 1)) ∧ x.lats = [] ∧ x.next = [] ∧ x.init = [] ∧ x.outs = [] ∧ x.ands = []
theorem zpH {s : S} {mo : Int} {n : Nat} {r : S} (hmo : 2 * (n : Int) ≤ mo) (hm : mo ≤ 100000) {i : Nat} {x : Fi} (hi : i < n) (hp : PI' s n r i x) : ∃ y, za6 s mo x = .ok y ∧ PI' s n r (i + 1) y := by
 obtain ⟨h1, h2, h3, h4, h5, h6, h7, h8⟩ := hp
 rw [zdk hi] at h1
 have h1' : s.drop x.a = Lib.itoa (2 * ((i : Int) + 1)) ++ 10 :: (zdN (fun i : Nat => lnT [2 * ((i : Int) + 1)]) (i + 1) n ++ r) := by rw [h1]; simp [lnT, lnG]
 obtain ⟨b, hb, hd⟩ := zkG (mo := mo) h1' (by omega) zpF (by omega) (by omega) (by omega) (by rw [h2, zbU]; omega)
 unfold za6
 rw [hb]
 dsimp only
 obtain ⟨e1, e2⟩ := zcD (x := { ({ x with a := b, D := x.D ++ [2 * ((i : Int) + 1) / 2] } : Fi) with ins := x.ins ++ [2 * ((i : Int) + 1)] }) hd
 refine ⟨_, e1, e2, ?_, ?_, h4, h5, h6, h7, h8⟩
 ·show x.D ++ [2 * ((i : Int) + 1) / 2] = _
  rw [h2, zef (i + 1)]
  congr 2
  omega
 ·show x.ins ++ [2 * ((i : Int) + 1)] = _
  rw [h3, List.range_succ, List.map_append]; rfl
def PL (s : S) (g : Gr) (r : S) (i : Nat) (x : Fi) : Prop := s.drop x.a = zdN (fun i : Nat => lnT (znW g i)) i g.next.length ++ r ∧ x.D = zeG (1 + g.ins.toNat + i) ∧ x.ins = (List.range g.ins.toNat).map (fun j : Nat => 2 * ((j : Int) + 1)) ∧ x.lats = (List.range i).map (fun j : Nat => 2 * (1 + g.ins + (j : Int))) ∧ x.next.map Prod.fst = g.next.take i ∧ x.init = g.init.take i ∧ x.outs = [] ∧ x.ands = []
theorem zsR {s : S} {mo : Int} {g : Gr} {r : S} (i0 : 0 ≤ g.ins) (hmo : 2 * (g.ins + g.next.length) ≤ mo) (hm : mo ≤ 100000) (hn : ∀ a ∈ g.next, 0 ≤ a ∧ a ≤ mo) (hil : g.init.length = g.next.length) (hin : ∀ a ∈ g.init, 0 ≤ a ∧ a ≤ 2) {i : Nat} {x : Fi} (hi : i < g.next.length) (hp : PL s g r i x) :
 ∃ y, za7 s mo x = .ok y ∧ PL s g r (i + 1) y := by
 obtain ⟨h1, h2, h3, h4, h5, h6, h7, h8⟩ := hp
 rw [zdk hi] at h1
 obtain ⟨R, hR⟩ : ∃ R, R = zdN (fun i : Nat => lnT (znW g i)) (i + 1) g.next.length ++ r := ⟨_, rfl⟩
 obtain ⟨lit, hlit⟩ : ∃ lit, lit = 2 * (1 + g.ins + (i : Int)) := ⟨_, rfl⟩
 obtain ⟨nx, hnx⟩ : ∃ nx, nx = g.next.getD i 0 := ⟨_, rfl⟩
 obtain ⟨ini, hini⟩ : ∃ ini, ini = g.init.getD i 0 := ⟨_, rfl⟩
 obtain ⟨T, hT⟩ : ∃ T : Cl, T = (if ini = 0 then [] else if ini = 1 then [1] else [lit]) := ⟨_, rfl⟩
 have bn := hn nx (by rw [hnx, zA hi]; exact List.getElem_mem hi)
 have bi := hin ini (by rw [hini, zA (by omega)]; exact List.getElem_mem _)
 have h1' : s.drop x.a = Lib.itoa lit ++ 32 :: (Lib.itoa nx ++ (lnG T ++ R)) := by
  rw [h1, hT, hR, hini, hnx, hlit]; simp [lnT, lnG, znW]
 obtain ⟨b, hb, hd⟩ := zkG (mo := mo) h1' (by omega) zpG (by omega) (by omega) (by omega) (by rw [h2, zbU]; omega)
 unfold za7
 rw [hb]
 dsimp only
 obtain ⟨e1, e2⟩ := zcD (x := { x with a := b, D := x.D ++ [lit / 2] }) hd
 rw [e1]
 dsimp only
 obtain ⟨c, r', ec, hc⟩ := ztX T
 have e2' := e2
 rw [ec, List.cons_append] at e2'
 obtain ⟨b2, hb2, hd2⟩ := zhN (x := { x with a := b + 1, D := x.D ++ [lit / 2] }) (mo := mo) e2' (by omega) (by omega) hc (by omega)
 rw [hb2]
 dsimp only
 have hd2' : s.drop b2 = lnG T ++ R := by rw [hd2, ec]; rfl
 have hbeg : ∃ (n : Int) (b3 : Nat), zee s lit { x with a := b2, D := x.D ++ [lit / 2], next := x.next ++ [(nx, b + 1)] } = .ok (n, { x with a := b3, D := x.D ++ [lit / 2], next := x.next ++ [(nx, b + 1)] }) ∧ min n 2 = ini ∧ s.drop b3 = 10 :: R := by
  unfold zee
  by_cases z0 : ini = 0
  ·rw [if_pos z0] at hT
   have hd3 : s.drop b2 = 10 :: R := by rw [hd2', hT]; rfl
   refine ⟨0, b2, ?_, by omega, hd3⟩
   dsimp only
   rw [if_neg (by rw [(zcC hd3).2.2.2.1 32 (by decide)]; decide)]
  ·rw [if_neg z0] at hT
   obtain ⟨v, hv, hv2, hv3⟩ : ∃ v, T = [v] ∧ min v 2 = ini ∧ (v < 2 ∨ v = lit) ∧ 0 ≤ v ∧ v ≤ 2147483647 := by
    by_cases z1 : ini = 1
    ·rw [if_pos z1] at hT; exact ⟨1, hT, by omega, .inl (by omega), by omega, by omega⟩
    ·rw [if_neg z1] at hT; exact ⟨lit, hT, by omega, .inr rfl, by omega, by omega⟩
   have hd3 : s.drop b2 = 32 :: (Lib.itoa v ++ 10 :: R) := by rw [hd2', hv]; simp [lnG]
   obtain ⟨a1, a2, _⟩ := zcC hd3
   obtain ⟨b3, hb3, hd4, _⟩ := zfZ a2 hv3.2.1 hv3.2.2 zpF
   refine ⟨v, b3, ?_, hv2, hd4⟩
   dsimp only
   rw [if_pos a1, hb3]
   dsimp only
   rw [if_pos hv3.1]
 obtain ⟨n, b3, hb3, hmin, hd3⟩ := hbeg
 rw [hb3]
 dsimp only
 obtain ⟨f1, f2⟩ := zcD (x := { x with a := b3, D := x.D ++ [lit / 2], next := x.next ++ [(nx, b + 1)], lats := x.lats ++ [lit], init := x.init ++ [min n 2] }) hd3
 refine ⟨_, f1, by rw [hR] at f2; exact f2, ?_, h3, ?_, ?_, ?_, h7, h8⟩
 ·show x.D ++ [lit / 2] = _
  rw [h2, show 1 + g.ins.toNat + (i + 1) = (1 + g.ins.toNat + i) + 1 by omega, zef]
  congr 2
  omega
 ·show x.lats ++ [lit] = _
  rw [h4, List.range_succ, List.map_append, hlit]; rfl
 ·show (x.next ++ [(nx, b + 1)]).map Prod.fst = _
  rw [List.map_append, h5, zf1 hi, hnx]; rfl
 ·show x.init ++ [min n 2] = _
  rw [h6, zf1 (by omega), hmin, hini]
def PO (s : S) (g : Gr) (r : S) (i : Nat) (x : Fi) : Prop := s.drop x.a = zdN (fun i : Nat => lnT [g.outs.getD i 0]) i g.outs.length ++ r ∧ x.D = zeG (1 + g.ins.toNat + g.next.length) ∧ x.ins = (List.range g.ins.toNat).map (fun j : Nat => 2 * ((j : Int) + 1)) ∧ x.lats = (List.range g.next.length).map (fun j : Nat => 2 * (1 + g.ins + (j : Int))) ∧ x.next.map Prod.fst = g.next ∧ x.init = g.init ∧ x.outs.map Prod.fst = g.outs.take i ∧ x.ands = []
theorem zpI {s : S} {mo : Int} {g : Gr} {r : S} (hm : mo ≤ 100000) (hn : ∀ a ∈ g.outs, 0 ≤ a ∧ a ≤ mo) {i : Nat} {x : Fi} (hi : i < g.outs.length) (hp : PO s g r i x) :
 ∃ y, zap s mo x = .ok y ∧ PO s g r (i + 1) y := by
 obtain ⟨h1, h2, h3, h4, h5, h6, h7, h8⟩ := hp
 rw [zdk hi] at h1
 obtain ⟨v, hv⟩ : ∃ v, v = g.outs.getD i 0 := ⟨_, rfl⟩
 have bn := hn v (by rw [hv, zA hi]; exact List.getElem_mem hi)
 have h1' : s.drop x.a = Lib.itoa v ++ 10 :: (zdN (fun i : Nat => lnT [g.outs.getD i 0]) (i + 1) g.outs.length ++ r) := by rw [h1, hv]; simp [lnT, lnG]
 obtain ⟨b, hb, hd⟩ := zhN (mo := mo) h1' bn.1 (by omega) zpF bn.2
 unfold zap
 rw [hb]
 dsimp only
 obtain ⟨e1, e2⟩ := zcD (x := { ({ x with a := b } : Fi) with outs := x.outs ++ [(v, x.a)] }) hd
 refine ⟨_, e1, e2, h2, h3, h4, h5, h6, ?_, h8⟩
 show (x.outs ++ [(v, x.a)]).map Prod.fst = _
 rw [List.map_append, h7, zf1 hi, hv]; rfl
def PA (s : S) (g : Gr) (r : S) (i : Nat) (x : Fi) : Prop := s.drop x.a = zdN (fun i : Nat => lnT [2 * (g.first + (i : Int)), (g.ands.getD i (0, 0)).1, (g.ands.getD i (0, 0)).2]) i g.ands.length ++ r ∧ x.D = zeG (1 + g.ins.toNat + g.next.length + i) ∧ x.ins = (List.range g.ins.toNat).map (fun j : Nat => 2 * ((j : Int) + 1)) ∧ x.lats = (List.range g.next.length).map (fun j : Nat => 2 * (1 + g.ins + (j : Int))) ∧ x.next.map Prod.fst = g.next ∧ x.init = g.init ∧ x.outs.map Prod.fst = g.outs ∧ x.ands.map (fun a => (a.lit, a.p.1, a.q.1)) = (List.range i).map fun j : Nat => (2 * (g.first + (j : Int)), (g.ands.getD j (0, 0)).1, (g.ands.getD j (0, 0)).2)
theorem zuX {s : S} {mo : Int} {g : Gr} {r : S} (i0 : 0 ≤ g.ins) (hmo : 2 * (g.first + g.ands.length) ≤ mo + 1) (hm : mo ≤ 100000) (hn : ∀ i (h : i < g.ands.length), 0 ≤ g.ands[i].1 ∧ g.ands[i].1 ≤ mo ∧ 0 ≤ g.ands[i].2 ∧ g.ands[i].2 ≤ mo) {i : Nat} {x : Fi} (hi : i < g.ands.length) (hp : PA s g r i x) :
 ∃ y, zcO s mo x = .ok y ∧ PA s g r (i + 1) y := by
 have wf : g.first = 1 + g.ins + g.next.length := rfl
 obtain ⟨h1, h2, h3, h4, h5, h6, h7, h8⟩ := hp
 rw [zdk hi] at h1
 obtain ⟨lit, hlit⟩ : ∃ lit, lit = 2 * (g.first + (i : Int)) := ⟨_, rfl⟩
 obtain ⟨p, hp⟩ : ∃ v, v = (g.ands.getD i (0, 0)).1 := ⟨_, rfl⟩
 obtain ⟨q, hq⟩ : ∃ v, v = (g.ands.getD i (0, 0)).2 := ⟨_, rfl⟩
 obtain ⟨R, hR⟩ : ∃ R, R = zdN (fun i : Nat => lnT [2 * (g.first + (i : Int)), (g.ands.getD i (0, 0)).1, (g.ands.getD i (0, 0)).2]) (i + 1) g.ands.length ++ r := ⟨_, rfl⟩
 have bn := hn i hi
 rw [← zA (d := ((0, 0) : Pr)) hi, ← hp, ← hq] at bn
 have h1' : s.drop x.a = Lib.itoa lit ++ 32 :: (Lib.itoa p ++ 32 :: (Lib.itoa q ++ 10 :: R)) := by rw [h1, hp, hq, hlit, hR]; simp [lnT, lnG]
 obtain ⟨b, hb, hd⟩ := zkG (mo := mo) h1' (by omega) zpG (by omega) (by omega) (by omega) (by rw [h2, zbU]; omega)
 unfold zcO
 rw [hb]
 dsimp only
 obtain ⟨e1, e2⟩ := zcD (x := { x with a := b, D := x.D ++ [lit / 2] }) hd
 rw [e1]
 dsimp only
 obtain ⟨b2, hb2, hd2⟩ := zhN (x := { x with a := b + 1, D := x.D ++ [lit / 2] }) (mo := mo) e2 (by omega) (by omega) zpG (by omega)
 rw [hb2]
 dsimp only
 obtain ⟨f1, f2⟩ := zcD (x := { x with a := b2, D := x.D ++ [lit / 2] }) hd2
 rw [f1]
 dsimp only
 obtain ⟨b3, hb3, hd3⟩ := zhN (x := { x with a := b2 + 1, D := x.D ++ [lit / 2] }) (mo := mo) f2 (by omega) (by omega) zpF (by omega)
 rw [hb3]
 dsimp only
 obtain ⟨k1, k2⟩ := zcD (x := { x with a := b3, D := x.D ++ [lit / 2] }) hd3
 rw [k1]
 refine ⟨_, rfl, by rw [hR] at k2; exact k2, ?_, h3, h4, h5, h6, h7, ?_⟩
 ·show x.D ++ [lit / 2] = _
  rw [h2, show 1 + g.ins.toNat + g.next.length + (i + 1) = (1 + g.ins.toNat + g.next.length + i) + 1 by omega, zef]
  congr 2
  omega
 ·show (x.ands ++ [(⟨lit, x.a, (p, b + 1), (q, b2 + 1)⟩ : An)]).map _ = _
  rw [List.map_append, h8, List.range_succ, List.map_append, hlit, hp, hq]; rfl
theorem zcE {D : Cl} : ∀ {l : List Us}, (∀ u ∈ l, u.1 / 2 ∈ D) → zau D l = none
 | [], _ => rfl
 | u :: l, h => by
  unfold zau
  rw [if_pos (h u (by simp))]
  exact zcE fun v hv => h v (by simp [hv])
def zdO (f : Int) (j n : Nat) : Cl := (List.range' j (n - j)).map fun t : Nat => f + (t : Int)
theorem zei {f k : Int} {j n : Nat} : k ∈ zdO f j n ↔ f + j ≤ k ∧ k < f + n := by
 unfold zdO
 rw [List.mem_map]
 constructor
 ·rintro ⟨i, hi, rfl⟩; have := List.mem_range'_1.1 hi; omega
 ·rintro ⟨h0, h1⟩; exact ⟨(k - f).toNat, List.mem_range'_1.2 (by omega), by omega⟩
theorem znG {f : Int} {j n : Nat} (h : j < n) : zdO f j n = (f + (j : Int)) :: zdO f (j + 1) n := by
 unfold zdO
 rw [show n - j = (n - (j + 1)) + 1 by omega, List.range'_succ]
 rfl
theorem zkH {A : List An} {f : Int} (hl : ∀ i (h : i < A.length), A[i].lit = 2 * (f + (i : Int)) ∧ A[i].p.1 < 2 * (f + (i : Int)) ∧ A[i].q.1 < 2 * (f + (i : Int))) : ∀ k j i : Nat, i ≤ j → j ≤ A.length → (A.length - j) * (A.length + 1) + (A.length + 1 - i) ≤ k → zaZ A k i (zdO f j A.length) (List.range j) = (List.range A.length, [])
 | 0, j, i, h1, h2, h3 => by omega
 | k + 1, j, i, h1, h2, h3 => by
  unfold zaZ
  by_cases hi : i < A.length
  ·rw [if_pos hi, zA hi]
   obtain ⟨a1, a2, a3⟩ := hl i hi
   by_cases hij : i = j
   ·subst hij
    have e1 : A[i].lit / 2 ∈ zdO f i A.length := by rw [zei, a1]; omega
    have e2 : A[i].p.1 / 2 ∉ zdO f i A.length := by rw [zei]; omega
    have e3 : A[i].q.1 / 2 ∉ zdO f i A.length := by rw [zei]; omega
    have e4 : (zdO f i A.length).erase (A[i].lit / 2) = zdO f (i + 1) A.length := by
     rw [znG hi, show A[i].lit / 2 = f + (i : Int) by rw [a1]; omega, List.erase_cons_head]
    rw [if_pos ⟨e1, e2, e3⟩, e4, show List.range i ++ [i] = List.range (i + 1) from List.range_succ.symm]
    refine zkH hl k (i + 1) 0 (Nat.zero_le _) hi ?_
    have hmul : (A.length - i) * (A.length + 1) = (A.length - (i + 1)) * (A.length + 1) + (A.length + 1) := by
     rw [show A.length - i = (A.length - (i + 1)) + 1 by omega, Nat.add_mul, Nat.one_mul]
    omega
   ·have e1 : A[i].lit / 2 ∉ zdO f j A.length := by rw [zei, a1]; omega
    rw [if_neg fun h => e1 h.1]
    exact zkH hl k j (i + 1) (by omega) h2 (by omega)
  ·rw [if_neg hi]
   have : j = A.length := by omega
   subst this
   simp [zdO]
theorem zls {n k : Nat} (h : k < n) : (zeG n).idxOf (k : Int) = k := by
 induction n with
 | zero => omega
 | succ n ih =>
  rw [zef]
  by_cases hk : k < n
  ·rw [List.idxOf_append, if_pos (by rw [zbU]; omega)]
   exact ih hk
  ·have : k = n := by omega
   subst this
   rw [List.idxOf_append, if_neg (by rw [zbU]; omega), zhO]
   simp
theorem zfd {D : Cl} : ∀ {ls V : Cl} {k : Int}, (zgN D V k ls).length = V.length
 | [], V, k => rfl
 | l :: ls, V, k => by unfold zgN; rw [zfd, List.length_set]
theorem zhP {N : Nat} : ∀ {ls V : Cl} {k : Nat}, V.length = N → k + ls.length ≤ N → (∀ j (h : j < ls.length), ls[j] / 2 = ((k + j : Nat) : Int)) → ∀ v : Nat, (zgN (zeG N) V (k : Int) ls).getD v 0 = if k ≤ v ∧ v < k + ls.length then (v : Int) else V.getD v 0
 | [], V, k, hV, hk, hl, v => by
  unfold zgN
  rw [if_neg (by simp)]
 | l :: ls, V, k, hV, hk, hl, v => by
  unfold zgN
  have h0 : l / 2 = (k : Int) := by have := hl 0 (by simp); simpa using this
  rw [List.length_cons] at hk
  rw [h0, zls (by omega)]
  have := zhP (N := N) (ls := ls) (V := V.set k k) (k := k + 1) (by simpa using hV) (by omega) (fun j hj => by
   have := hl (j + 1) (by simpa using hj)
   simp only [List.getElem_cons_succ] at this
   rw [this]; omega) v
  rw [show ((k : Int) + 1) = ((k + 1 : Nat) : Int) by omega, this, List.length_cons]
  by_cases hv : v = k
  ·subst hv
   rw [if_neg (by omega), if_pos (by omega), List.getD_eq_getElem?_getD, List.getElem?_set_self (by omega)]
   rfl
  ·rw [List.getD_eq_getElem?_getD (l := V.set k k), List.getElem?_set_ne (Ne.symm hv), ← List.getD_eq_getElem?_getD]
   by_cases hc : k + 1 ≤ v ∧ v < k + 1 + ls.length
   ·rw [if_pos hc, if_pos (by omega)]
   ·rw [if_neg hc, if_neg (by omega)]
theorem zhQ {N : Nat} {V : Cl} (hV : ∀ v, v < N → V.getD v 0 = (v : Int)) {u : Us} (h0 : 0 ≤ u.1) (h1 : u.1 < 2 * N) : zbS (zeG N) V u = u.1 := by
 obtain ⟨k, hk⟩ : ∃ k : Nat, u.1 / 2 = k := ⟨(u.1 / 2).toNat, by omega⟩
 unfold zbS toI
 rw [hk, zls (by omega), hV k (by omega)]
 omega
theorem zgO {D V : Cl} {l : List Us} {m : Cl} (h : l.map Prod.fst = m) (hh : ∀ u ∈ l, zbS D V u = u.1) : l.map (zbS D V) = m := by
 rw [← h]
 exact List.map_congr_left hh
theorem zsS {s : S} {g : Gr} (hg : g.chk = 0) {r : S} {a : Nat} (h : s.drop a = ztW g.ins.toNat ++ (zi9 g g.next.length ++ (zja g.outs g.outs.length ++ (zjb g g.ands.length ++ r)))) : ∃ x, zfX s (hd9 (zaY g)) a = .ok x ∧ PA s g r g.ands.length x := by
 obtain ⟨_, i0, i1, i2, i3, i4, i5⟩ := zM hg
 obtain ⟨r1, r2, r3, r4⟩ := zaf i4
 have wf : g.first = 1 + g.ins + g.next.length := rfl
 have wa : g.all = 2 * (g.first + g.ands.length) := rfl
 have h0 : (hd9 (zaY g)).getD 0 0 = g.first - 1 + (g.ands.length : Int) := rfl
 have h1 : (hd9 (zaY g)).getD 1 0 = g.ins := rfl
 have h2 : (hd9 (zaY g)).getD 2 0 = (g.next.length : Int) := rfl
 have h3 : (hd9 (zaY g)).getD 3 0 = (g.outs.length : Int) := rfl
 have h4 : (hd9 (zaY g)).getD 4 0 = (g.ands.length : Int) := rfl
 have h5 : (hd9 (zaY g)).getD 5 0 = 0 := rfl
 have h6 : (hd9 (zaY g)).getD 6 0 = 0 := rfl
 unfold zfX
 rw [h0, h1, h2, h3, h4, h5, h6]
 obtain ⟨mo, hmo⟩ : ∃ mo, mo = 2 * (g.first - 1 + (g.ands.length : Int)) + 1 := ⟨_, rfl⟩
 rw [← hmo]
 obtain ⟨x1, e1, p1⟩ := zf0 (f := za6 s mo) (n := g.ins.toNat) (P := PI' s g.ins.toNat _) (fun i x hi hp => zpH (by omega) (by omega) hi hp) g.ins.toNat 0 (.start a) (by omega) ⟨by rw [← zeh]; exact h, rfl, rfl, rfl, rfl, rfl, rfl, rfl⟩
 rw [e1]
 dsimp only
 obtain ⟨q1, q2, q3, q4, q5, q6, q7, q8⟩ := p1
 rw [zeg, List.nil_append] at q1
 obtain ⟨x2, e2, p2⟩ := zf0 (f := za7 s mo) (n := g.next.length) (P := PL s g _) (fun i x hi hp => zsR i0 (by omega) (by omega) (fun a ha => by have := r3 a ha; omega) (by omega) (fun a ha => r2 a ha) hi hp) g.next.length 0 x1 (by omega) ⟨by rw [← zeh]; exact q1, by rw [q2]; congr 1; omega, q3, q4, by rw [q5]; rfl, by rw [q6]; rfl, q7, q8⟩
 rw [Int.toNat_natCast, e2]
 dsimp only
 obtain ⟨q1, q2, q3, q4, q5, q6, q7, q8⟩ := p2
 rw [zeg, List.nil_append] at q1
 rw [List.take_length] at q5
 rw [List.take_of_length_le (by omega)] at q6
 obtain ⟨x3, e3, p3⟩ := zf0 (f := zap s mo) (n := g.outs.length) (P := PO s g _) (fun i x hi hp => zpI (by omega) (fun a ha => by have := r4 a ha; omega) hi hp) g.outs.length 0 x2 (by omega) ⟨by rw [← zeh]; exact q1, q2, q3, q4, q5, q6, by rw [q7]; rfl, q8⟩
 rw [show ((g.outs.length : Int) + 0 + 0).toNat = g.outs.length by omega, e3]
 dsimp only
 obtain ⟨q1, q2, q3, q4, q5, q6, q7, q8⟩ := p3
 rw [zeg, List.nil_append] at q1
 rw [List.take_length] at q7
 obtain ⟨x4, e4, p4⟩ := zf0 (f := zcO s mo) (n := g.ands.length) (P := PA s g r) (fun i x hi hp => zuX i0 (by omega) (by omega) (fun k hk => by obtain ⟨o1, o2, o3, o4⟩ := zas i5 hk; omega) hi hp) g.ands.length 0 x3 (by omega) ⟨by rw [← zeh]; exact q1, by rw [q2]; rfl, q3, q4, q5, q6, q7, by rw [q8]; rfl⟩
 rw [Int.toNat_natCast, e4]
 exact ⟨x4, rfl, p4⟩
theorem zwq {s : S} {g : Gr} {r : S} {x : Fi} (hp : PA s g r g.ands.length x) : x.ands.length = g.ands.length ∧ ∀ i (h : i < x.ands.length) (h' : i < g.ands.length), x.ands[i].lit = 2 * (g.first + (i : Int)) ∧ x.ands[i].p.1 = g.ands[i].1 ∧ x.ands[i].q.1 = g.ands[i].2 := by
 obtain ⟨h1, h2, h3, h4, h5, h6, h7, h8⟩ := hp
 have hl : x.ands.length = g.ands.length := by
  have := congrArg List.length h8
  simpa using this
 refine ⟨hl, fun i h h' => ?_⟩
 have := congrArg (fun l => l[i]?) h8
 simp only [List.getElem?_map, List.getElem?_eq_getElem h, List.getElem?_range h', Option.map_some, Option.some.injEq, Prod.mk.injEq, zA h'] at this
 exact this
theorem zsT {s : S} {g : Gr} (hg : g.chk = 0) {r : S} {x : Fi} (hp : PA s g r g.ands.length x) : (∀ u ∈ x.next, u.1 / 2 ∈ x.D) ∧ (∀ u ∈ x.outs, u.1 / 2 ∈ x.D) ∧ (∀ u ∈ x.uses, u.1 / 2 ∈ x.D) ∧ zaZ x.ands ((x.ands.length + 1) * (x.ands.length + 1)) 0 x.left [] = (List.range g.ands.length, []) ∧ zbT x (List.range g.ands.length) = g := by
 obtain ⟨_, i0, i1, i2, i3, i4, i5⟩ := zM hg
 obtain ⟨r1, r2, r3, r4⟩ := zaf i4
 have wf : g.first = 1 + g.ins + g.next.length := rfl
 have wa : g.all = 2 * (g.first + g.ands.length) := rfl
 obtain ⟨hl, hA⟩ := zwq hp
 obtain ⟨h1, h2, h3, h4, h5, h6, h7, h8⟩ := hp
 obtain ⟨N, hN⟩ : ∃ N, N = 1 + g.ins.toNat + g.next.length + g.ands.length := ⟨_, rfl⟩
 rw [← hN] at h2
 have bx : ∀ u ∈ x.next, 0 ≤ u.1 ∧ u.1 < 2 * N := fun u hu => by
  have := r3 u.1 (by rw [← h5]; exact List.mem_map_of_mem hu)
  omega
 have bo : ∀ u ∈ x.outs, 0 ≤ u.1 ∧ u.1 < 2 * N := fun u hu => by
  have := r4 u.1 (by rw [← h7]; exact List.mem_map_of_mem hu)
  omega
 have ba : ∀ i (h : i < x.ands.length), 0 ≤ x.ands[i].p.1 ∧ x.ands[i].p.1 < 2 * N ∧ 0 ≤ x.ands[i].q.1 ∧ x.ands[i].q.1 < 2 * N := fun i h => by
  obtain ⟨a1, a2, a3⟩ := hA i h (by omega)
  obtain ⟨o1, o2, o3, o4⟩ := zas i5 (show i < g.ands.length by omega)
  omega
 have il : x.ins.length = g.ins.toNat := by rw [h3]; simp
 have ll : x.lats.length = g.next.length := by rw [h4]; simp
 have hV : ∀ v, v < N → (x.vals (List.range g.ands.length)).getD v 0 = (v : Int) := by
  intro v hv
  have z1 : (zgN (zeG N) ((zeG N).map fun _ => 0) ((1 : Nat) : Int) (x.ins ++ x.lats)).getD v 0 = if 1 ≤ v ∧ v < 1 + (x.ins ++ x.lats).length then (v : Int) else ((zeG N).map fun _ => (0 : Int)).getD v 0 := by
   refine zhP (by rw [List.length_map, zhO]) (by rw [List.length_append]; omega) (fun j hj => ?_) v
   rw [List.length_append] at hj
   by_cases hj' : j < x.ins.length
   ·rw [List.getElem_append_left hj']
    simp only [h3, List.getElem_map, List.getElem_range]
    omega
   ·rw [List.getElem_append_right (by omega)]
    simp only [h4, List.getElem_map, List.getElem_range]
    omega
  have z2 : (zgN (zeG N) (zgN (zeG N) ((zeG N).map fun _ => 0) ((1 : Nat) : Int) (x.ins ++ x.lats)) ((1 + x.ins.length + x.lats.length : Nat) : Int) ((List.range g.ands.length).map fun k => (x.ands.getD k .nil).lit)).getD v 0 = if 1 + x.ins.length + x.lats.length ≤ v ∧ v < 1 + x.ins.length + x.lats.length + ((List.range g.ands.length).map fun k => (x.ands.getD k .nil).lit).length then (v : Int) else (zgN (zeG N) ((zeG N).map fun _ => 0) ((1 : Nat) : Int) (x.ins ++ x.lats)).getD v 0 := by
   refine zhP (by rw [zfd, List.length_map, zhO]) (by rw [List.length_map, List.length_range]; omega) (fun j hj => ?_) v
   rw [List.length_map, List.length_range] at hj
   rw [List.getElem_map, List.getElem_range, zA (by omega), (hA j (by omega) hj).1]
   omega
  unfold Fi.vals
  rw [h2]
  rw [z1] at z2
  rw [show (1 + (x.ins.length : Int) + x.lats.length) = ((1 + x.ins.length + x.lats.length : Nat) : Int) by omega]
  refine Eq.trans z2 ?_
  simp only [List.length_map, List.length_range, List.length_append]
  split
  ·rfl
  ·split
   ·rfl
   ·have : v = 0 := by omega
    subst this
    rw [List.getD_eq_getElem?_getD, List.getElem?_map]
    cases (zeG N)[0]? <;> rfl
 refine ⟨fun u hu => ?_, fun u hu => ?_, fun u hu => ?_, ?_, ?_⟩
 ·have := bx u hu; rw [h2, zbU]; omega
 ·have := bo u hu; rw [h2, zbU]; omega
 ·unfold Fi.uses at hu
  obtain ⟨y, hy, hu⟩ := List.mem_flatMap.1 hu
  obtain ⟨i, hi, rfl⟩ := List.mem_iff_getElem.1 hy
  have := ba i hi
  rw [h2, zbU]
  simp only [List.mem_cons, List.not_mem_nil, or_false] at hu
  rcases hu with rfl | rfl <;> omega
 ·have hleft : x.left = zdO g.first 0 x.ands.length := by
   unfold Fi.left zdO
   refine List.ext_getElem (by simp) fun i h1 h2 => ?_
   rw [List.length_map] at h1
   rw [List.getElem_map, List.getElem_map, (hA i h1 (by omega)).1]
   simp only [List.getElem_range']
   omega
  rw [hleft]
  have := zkH (A := x.ands) (f := g.first) (fun i h => by
   obtain ⟨a1, a2, a3⟩ := hA i h (by omega)
   obtain ⟨o1, o2, o3, o4⟩ := zas i5 (show i < g.ands.length by omega)
   omega) ((x.ands.length + 1) * (x.ands.length + 1)) 0 0 (Nat.le_refl _) (Nat.zero_le _) (by
    rw [Nat.add_mul (x.ands.length) 1, Nat.one_mul, Nat.sub_zero, Nat.sub_zero]; exact Nat.le_refl _)
  rw [List.range_zero] at this
  rw [this, hl]
 ·unfold zbT
  have e1 : x.next.map (zbS (zeG N) (x.vals (List.range g.ands.length))) = g.next := zgO h5 fun u hu => zhQ hV (bx u hu).1 (bx u hu).2
  have e2 : x.outs.map (zbS (zeG N) (x.vals (List.range g.ands.length))) = g.outs := zgO h7 fun u hu => zhQ hV (bo u hu).1 (bo u hu).2
  have e3 : ((List.range g.ands.length).map fun k => (zbS (zeG N) (x.vals (List.range g.ands.length)) (x.ands.getD k .nil).p, zbS (zeG N) (x.vals (List.range g.ands.length)) (x.ands.getD k .nil).q)) = g.ands := by
   refine List.ext_getElem (by simp) fun i h1 h2 => ?_
   have hi : i < x.ands.length := by omega
   obtain ⟨a1, a2, a3⟩ := hA i hi h2
   have b := ba i hi
   rw [List.getElem_map, List.getElem_range, zA hi, zhQ hV b.1 b.2.1, zhQ hV b.2.2.1 b.2.2.2, a2, a3]
  rw [h2, e1, e2, e3, h6, il, Int.toNat_of_nonneg i0]
end Go.Proofs.YtboolnpmlmgpkaaGreatDoor
